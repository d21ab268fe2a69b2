/-
  texts: bytes turned; texts: rev.
-/
import Derived.Test.YtgmhifafbebjfaaGreatDoorTCallB
import Derived.Test.YtgmhifafbebjfaaGreatDoorTDoA
import Derived.Laws.IdiomStrings
import Derived.RegionTactic
import Derived.ChangeAlike
namespace Go.Proofs.YtgmhifafbebjfaaGreatDoor
open Go.RowKit

/-- a block that begins with some bytes, none frozen -/
def BytesAt (w : World) (g : Nat) (l : List UInt8) : Prop := g < w.heap.size ∧ ∀ j (hj : j < l.length), w.cell? ⟨g, j, none⟩ = some (.int .u8 (l[j].toNat : Int)) ∧ w.frozen? ⟨g, j, none⟩ = false
theorem bytes_made (s : ByteArray) (w : World) : ∃ (W : World) (cap : Nat), (convert 9 61 (.string s)).run Tryz.prog w = .ok (.slice (some ⟨w.heap.size, 0, none⟩) s.size cap) W ∧ Below w.heap.size w W ∧ BytesAt W w.heap.size s.data.toList := by
  refine ⟨_, _, run_bytes_of_string w 9 61 5 s Tryz.underlying9 Tryz.underlying61 Tryz.underlying5, ?_, ?_, fun j hj => ⟨?_, ?_⟩⟩
  · exact ((Below.refl w.heap.size w).drew).alloc (Nat.le_refl _) _
  · show w.heap.size < (w.drew.alloc _).heap.size
    rw [World.size_alloc]; exact Nat.lt_succ_self _
  · have hj2 : j < s.data.size := by simpa using hj
    rw [cell_of_row _ w.heap.size j _ 5 _ (heap_alloc_new w.drew _), bytesRow_at s _ j hj2]
    simp
  · have hj2 : j < s.data.size := by simpa using hj
    have hh := heap_alloc_new w.drew (.cells (bytesRow s (grownCap w s.size 0 5)) 5 ((bytesRow s (grownCap w s.size 0 5)).size, (bytesRow s (grownCap w s.size 0 5)).size + 1))
    have hz : j < (bytesRow s (grownCap w s.size 0 5)).size := by unfold bytesRow; rw [Array.size_append, Array.size_map]; omega
    have hd : w.drew.heap.size = w.heap.size := rfl
    rw [hd] at hh
    simp only [World.frozen?, hh]
    simp only [Bool.and_eq_false_imp, decide_eq_true_eq, decide_eq_false_iff_not]
    omega
theorem bytes_back (w : World) (g cap : Nat) (l : List UInt8) (h : BytesAt w g l) : (convert 61 9 (.slice (some ⟨g, 0, none⟩) l.length cap)).run Tryz.prog w = .ok (.string ⟨l.toArray⟩) w := by
  refine run_convert_bytes_back w 61 9 5 ⟨g, 0, none⟩ cap l Tryz.underlying61 Tryz.underlying5 Tryz.underlying9 fun j hj => ?_
  have := (h.2 j hj).1
  unfold Addr.add
  split
  · rename_i e; subst e; exact this
  · simpa using this
theorem BytesAt.set {w : World} {g : Nat} {l : List UInt8} (h : BytesAt w g l) (j : Nat) (c : UInt8) (v : Int) (hv : v = (c.toNat : Int)) : BytesAt (w.setCell ⟨g, j, none⟩ (.int .u8 v)) g (l.set j c) := by
  subst hv
  refine ⟨by simpa using h.1, fun k hk => ?_⟩
  rw [List.length_set] at hk
  obtain ⟨h1, h2⟩ := h.2 k hk
  rw [List.getElem_set]
  refine ⟨?_, by rw [World.frozen?_setCell]; exact h2⟩
  by_cases e : j = k
  · subst e
    rw [if_pos rfl, World.cell?_setCell_same' _ _ _ (by rw [h1]; rfl)]
  · rw [if_neg e, World.cell?_setCell_other _ _ _ _ (by first | (simp; done) | (simp; omega))]
    exact h1
theorem BytesAt.drewN {w : World} {g : Nat} {l : List UInt8} (h : BytesAt w g l) (n : Nat) : BytesAt (w.drewN n) g l := h
/-- a letter of one size as one of the other -/
def caseU (a b : Nat) (c : UInt8) : UInt8 := if a ≤ c.toNat ∧ c.toNat < a + 26 then UInt8.ofNat (c.toNat - a + b) else c
def caseS (a b : Nat) (s : ByteArray) : ByteArray := ⟨(s.data.toList.map (caseU a b)).toArray⟩
theorem case_step (f : UInt8 → UInt8) (l : List UInt8) (k : Nat) (hk : k < l.length) : ((l.take k).map f ++ l.drop k).set k (f l[k]) = (l.take (k + 1)).map f ++ l.drop (k + 1) := by
  have h1 : ((l.take k).map f).length = k := by simp; omega
  rw [List.set_append_right k (f l[k]) (by omega), h1, Nat.sub_self, List.drop_eq_getElem_cons hk, List.set_cons_zero, List.take_succ_eq_append_getElem hk, List.map_append, List.append_assoc]
  rfl
theorem case_len (f : UInt8 → UInt8) (l : List UInt8) (k : Nat) (hk : k < l.length) : k < ((l.take k).map f ++ l.drop k).length := by
  rw [List.length_append, List.length_map, List.length_take, List.length_drop]; omega
theorem case_at (f : UInt8 → UInt8) (l : List UInt8) (k : Nat) (hk : k < l.length) (h : k < ((l.take k).map f ++ l.drop k).length) : ((l.take k).map f ++ l.drop k)[k] = l[k] := by
  have h1 : ((l.take k).map f).length = k := by simp; omega
  rw [List.getElem_append_right (by omega)]
  simp only [List.getElem_drop, h1, Nat.sub_self, Nat.add_zero]
set_option maxRecDepth 100000 in
set_option maxHeartbeats 1000000 in
theorem each_any (s : ByteArray) (hs : s.size ≤ 1048576) (a b : Nat) (hab : a ≤ 200 ∧ b ≤ 200) (w : World) : Calls Tryz.prog 71 #[.string s, .int .u8 a, .int .u8 b] w fun e w' => e = .returned (.string (caseS a b s)) ∧ Below w.heap.size w w' := by
  obtain ⟨W, cap, hrun, hB, hBy⟩ := bytes_made s w
  have hBy' := Lib.hid hBy
  have hlen : s.data.toList.length = s.size := by first | rfl | simp
  have hlen' := Lib.hid hlen
  clear hBy hlen
  go_enter Tryz.func71, Tryz.ntmps71
  go_wp2
  go_loopw [14] (fun i wr => ∃ k : Nat, k ≤ s.size ∧ i = .int .i64 (k : Int) ∧ Hid (BytesAt wr w.heap.size ((s.data.toList.take k).map (caseU a b) ++ s.data.toList.drop k)) ∧ Below w.heap.size w wr) (fun i _ => s.size - (intOf i).toNat)
  case atStart => exact ⟨0, by omega, rfl, Lib.hid (by simpa using hBy'.out), hB⟩
  case round =>
    clear hrun hB
    obtain ⟨k, hk, rfl, hBk, hb⟩ := hrel
    by_cases hlt : k < s.size
    · have hl : k < s.data.toList.length := by rw [hlen'.out]; exact hlt
      have hl2 : k < ((s.data.toList.take k).map (caseU a b) ++ s.data.toList.drop k).length := case_len _ _ _ hl
      obtain ⟨c0, f0⟩ := hBk.out.2 k hl2
      rw [case_at _ _ k hl hl2] at c0
      obtain ⟨c, hc⟩ : ∃ c, s.data.toList[k] = c := ⟨_, rfl⟩
      rw [hc] at c0
      have hc256 : (c.toNat : Int) < 256 := by have := c.toNat_lt; omega
      have hc0 : (0 : Int) ≤ c.toNat := by omega
      have hst := case_step (caseU a b) s.data.toList k hl
      rw [hc] at hst
      have hst' := Lib.hid hst
      have hgl := hBk.out.1
      have hin1 : (0 : Int) ≤ k := by omega
      have hin2 : (k : Int) < s.size := by omega
      have hcd : (s.data.toList[k]?) = some c := by rw [List.getElem?_eq_getElem hl, hc]
      have hcd' := Lib.hid hcd
      clear hst hc hcd hl2
      clear hl
      by_cases h1 : (a : Int) ≤ c.toNat
      · by_cases h2 : (c.toNat : Int) < a + 26
        · have hcu : caseU a b c = UInt8.ofNat (c.toNat - a + b) := by unfold caseU; rw [if_pos (by omega)]
          have hcv : (c.toNat : Int) - a + b = ((caseU a b c).toNat : Int) := by rw [hcu, UInt8.toNat_ofNat']; omega
          have hcv' := Lib.hid hcv
          clear hcu hcv
          go_wp2
          go_roundw
          case rel => exact ⟨k + 1, by omega, by go_num, Lib.hid (by rw [← hst'.out]; exact hBk.out.set k _ _ hcv'.out), bel_set2 hb _ _ (by simp)⟩
          case measure => simp [intOf]; omega
        · have hcu : caseU a b c = c := by unfold caseU; rw [if_neg (by omega)]
          have hcu' := Lib.hid hcu
          clear hcu
          go_wp2
          go_roundw
          case rel =>
            refine ⟨k + 1, by omega, by go_num, Lib.hid ?_, hb⟩
            rw [← hst'.out, hcu'.out]
            have := case_at (caseU a b) s.data.toList k (by rw [hlen'.out]; exact hlt) (case_len _ _ _ (by rw [hlen'.out]; exact hlt))
            rw [show s.data.toList[k]'(by rw [hlen'.out]; exact hlt) = c from by have h9 := hcd'.out; rw [List.getElem?_eq_getElem (by rw [hlen'.out]; exact hlt)] at h9; injection h9] at this
            rw [show (List.map (caseU a b) (List.take k s.data.toList) ++ List.drop k s.data.toList).set k c = List.map (caseU a b) (List.take k s.data.toList) ++ List.drop k s.data.toList from by rw [← this]; exact List.set_getElem_self _]
            exact hBk.out
          case measure => simp [intOf]; omega
      · have hcu : caseU a b c = c := by unfold caseU; rw [if_neg (by omega)]
        have hcu' := Lib.hid hcu
        clear hcu
        go_wp2
        go_roundw
        case rel =>
          refine ⟨k + 1, by omega, by go_num, Lib.hid ?_, hb⟩
          rw [← hst'.out, hcu'.out]
          have := case_at (caseU a b) s.data.toList k (by rw [hlen'.out]; exact hlt) (case_len _ _ _ (by rw [hlen'.out]; exact hlt))
          rw [show s.data.toList[k]'(by rw [hlen'.out]; exact hlt) = c from by have h9 := hcd'.out; rw [List.getElem?_eq_getElem (by rw [hlen'.out]; exact hlt)] at h9; injection h9] at this
          rw [show (List.map (caseU a b) (List.take k s.data.toList) ++ List.drop k s.data.toList).set k c = List.map (caseU a b) (List.take k s.data.toList) ++ List.drop k s.data.toList from by rw [← this]; exact List.set_getElem_self _]
          exact hBk.out
        case measure => simp [intOf]; omega
    · have hkk : k = s.size := by omega
      subst hkk
      have hfin : (s.data.toList.take s.size).map (caseU a b) ++ s.data.toList.drop s.size = s.data.toList.map (caseU a b) := by
        rw [← hlen'.out, List.take_length, List.drop_length, List.append_nil]
      have hBf := hBk.out
      rw [hfin] at hBf
      have hback := bytes_back wr w.heap.size cap _ hBf
      rw [List.length_map, hlen'.out] at hback
      clear hfin hBf
      go_wp2
      go_ret
      exact ⟨rfl, hb⟩
end Go.Proofs.YtgmhifafbebjfaaGreatDoor
namespace Go.Proofs.YtgmhifafbebjfaaGreatDoor
open Go.RowKit

/-- the first k and the last k turned round -/
def swpL (l : List UInt8) (k : Nat) : List UInt8 := (List.range l.length).map fun m => if m < k ∨ l.length - k ≤ m then l.getD (l.length - 1 - m) 0 else l.getD m 0
theorem swpL_len (l : List UInt8) (k : Nat) : (swpL l k).length = l.length := by simp [swpL]
theorem swpL_zero (l : List UInt8) : swpL l 0 = l := by
  refine List.ext_getElem (by simp [swpL]) fun m h1 h2 => ?_
  simp only [swpL, List.getElem_map, List.getElem_range, List.getD_eq_getElem?_getD]
  rw [if_neg (by omega), List.getElem?_eq_getElem h2]; rfl
theorem swpL_end (l : List UInt8) (k : Nat) (h : l.length ≤ 2 * k + 1) : swpL l k = l.reverse := by
  refine List.ext_getElem (by simp [swpL]) fun m h1 h2 => ?_
  have hm : m < l.length := by simpa using h2
  rw [List.getElem_reverse]
  simp only [swpL, List.getElem_map, List.getElem_range, List.getD_eq_getElem?_getD]
  by_cases hc : m < k ∨ l.length - k ≤ m
  · rw [if_pos hc, List.getElem?_eq_getElem (by omega)]; rfl
  · rw [if_neg hc, List.getElem?_eq_getElem hm]
    have e : l.length - 1 - m = m := by omega
    simp only [e]; rfl
theorem swpL_at (l : List UInt8) (k m : Nat) (h1 : k ≤ m) (h2 : m < l.length - k) (hm : m < (swpL l k).length) : (swpL l k)[m] = l.getD m 0 := by
  simp only [swpL, List.getElem_map, List.getElem_range]
  rw [if_neg (by omega)]
theorem swpL_step (l : List UInt8) (k : Nat) (h : 2 * k + 1 < l.length) : ((swpL l k).set k (l.getD (l.length - 1 - k) 0)).set (l.length - 1 - k) (l.getD k 0) = swpL l (k + 1) := by
  refine List.ext_getElem (by simp [swpL]) fun m h1 h2 => ?_
  have hm : m < l.length := by rw [swpL_len] at h2; exact h2
  rw [List.getElem_set, List.getElem_set]
  by_cases e1 : l.length - 1 - k = m
  · rw [if_pos e1]
    subst e1
    simp only [swpL, List.getElem_map, List.getElem_range]
    rw [if_pos (by omega)]
    congr 1; omega
  · rw [if_neg e1]
    by_cases e2 : k = m
    · rw [if_pos e2]
      subst e2
      simp only [swpL, List.getElem_map, List.getElem_range]
      rw [if_pos (by omega)]
    · rw [if_neg e2]
      simp only [swpL, List.getElem_map, List.getElem_range]
      by_cases hc : m < k ∨ l.length - k ≤ m
      · rw [if_pos hc, if_pos (by omega)]
      · rw [if_neg hc, if_neg (by omega)]
set_option maxRecDepth 100000 in
set_option maxHeartbeats 1000000 in
theorem reverse_any (l : List UInt8) (hl : l.length ≤ 1048576) (g cap : Nat) (w : World) (hB : BytesAt w g l) : Calls Tryz.prog 155 #[.slice (some ⟨g, 0, none⟩) l.length cap] w fun e w' => e = .returned (.tuple #[]) ∧ BytesAt w' g l.reverse ∧ Below g w w' := by
  have hB' := Lib.hid hB
  have hgl := hB.1
  clear hB
  go_enter Tryz.func155, Tryz.ntmps155
  go_wp2
  go_loopw [2, 3] (fun i j wr => ∃ k : Nat, 2 * k ≤ l.length + 1 ∧ i = .int .i64 (k : Int) ∧ j = .int .i64 ((l.length : Int) - 1 - k) ∧ Hid (BytesAt wr g (swpL l k)) ∧ Below g w wr) (fun i _ _ => l.length - (intOf i).toNat)
  case atStart => exact ⟨0, by omega, rfl, by simp, Lib.hid (by rw [swpL_zero]; exact hB'.out), Below.refl _ _⟩
  case round =>
    obtain ⟨k, hk, rfl, rfl, hBk, hb⟩ := hrel
    by_cases hlt : 2 * k + 1 < l.length
    · obtain ⟨m, hm⟩ : ∃ m : Nat, m = l.length - 1 - k := ⟨_, rfl⟩
      have hmk : (l.length : Int) - 1 - k = (m : Int) := by omega
      have hst := swpL_step l k hlt
      rw [← hm] at hst
      have hkl : k < (swpL l k).length := by rw [swpL_len]; omega
      have hml : m < (swpL l k).length := by rw [swpL_len]; omega
      obtain ⟨c1, f1⟩ := hBk.out.2 k hkl
      obtain ⟨c2, f2⟩ := hBk.out.2 m hml
      rw [swpL_at l k k (by omega) (by omega)] at c1
      rw [swpL_at l k m (by omega) (by omega)] at c2
      obtain ⟨a, ha⟩ : ∃ a, l.getD k 0 = a := ⟨_, rfl⟩
      obtain ⟨b, hb9⟩ : ∃ b, l.getD m 0 = b := ⟨_, rfl⟩
      rw [ha] at c1 hst
      rw [hb9] at c2 hst
      rw [hmk]
      have hst' := Lib.hid hst
      have hgl2 := hBk.out.1
      have hmkl : k < m := by omega
      have hne : k ≠ m := by omega
      have hin1 : (0 : Int) ≤ k := by omega
      have hin2 : (k : Int) < l.length := by omega
      have hin3 : (0 : Int) ≤ m := by omega
      have hin4 : (m : Int) < l.length := by omega
      have hin5 : (k : Int) < m := by omega
      have hm2 : (m : Int) ≤ 1048576 := by omega
      have hm' := Lib.hid hm
      have d1 : (wr.setCell ⟨g, k, none⟩ (.int .u8 (b.toNat : Int))).cell? ⟨g, m, none⟩ = some (.int .u8 (b.toNat : Int)) := (World.cell?_setCell_other _ _ _ _ (by first | (simp; done) | (simp; omega))).trans c2
      have d2 : (wr.setCell ⟨g, k, none⟩ (.int .u8 (b.toNat : Int))).frozen? ⟨g, m, none⟩ = false := by rw [World.frozen?_setCell]; exact f2
      clear hst ha hb9 hkl hml hm hmk
      go_upto_region 3 with (fail)
      go_region
      go_wp2
      go_roundw
      case rel =>
        refine ⟨k + 1, by omega, by go_num, by congr 1; have := hm'.out; omega, Lib.hid ?_, ?_⟩
        · rw [← hst'.out]; exact (hBk.out.set k b _ rfl).set m a _ rfl
        · exact ((hb.trans ((Below.refl _ _).setCell (by simp) _)).trans ((Below.refl _ _).setCell (by simp) _)).trans (Below.refl _ _).drew
      case measure => simp [intOf]; omega
    · have hnl : ¬ (k : Int) < (l.length : Int) - 1 - k := by omega
      have hfin := swpL_end l k (by omega)
      have hBf := hBk.out
      rw [hfin] at hBf
      have hBf' := Lib.hid hBf
      clear hfin hBf
      go_wp2
      go_end0
      exact ⟨rfl, hBf'.out, hb⟩
def revS (s : ByteArray) : ByteArray := ⟨s.data.toList.reverse.toArray⟩
theorem rev_any (s : ByteArray) (hs : s.size ≤ 1048576) (w : World) : Calls Tryz.prog 83 #[.string s] w fun e w' => e = .returned (.string (revS s)) ∧ Below w.heap.size w w' := by
  obtain ⟨W, cap, hrun, hB, hBy⟩ := bytes_made s w
  have hlen : s.data.toList.length = s.size := by first | rfl | simp
  have CR := reverse_any s.data.toList (by rw [hlen]; exact hs) w.heap.size cap W hBy
  rw [hlen] at CR
  have CR' := Lib.hid CR
  have hlen' := Lib.hid hlen
  clear CR hBy hlen
  go_enter Tryz.func83, Tryz.ntmps83
  go_wp2_with fail
  refine CR'.out.mono ?_
  rintro e w2 ⟨rfl, hB2, hb2⟩
  have hback := bytes_back w2 w.heap.size cap _ hB2
  rw [List.length_reverse, hlen'.out] at hback
  clear hrun hB2
  go_wp2
  go_ret
  exact ⟨rfl, hB.trans hb2⟩
end Go.Proofs.YtgmhifafbebjfaaGreatDoor
