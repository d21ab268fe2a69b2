/-
  dec.Power: great numbers of the program.
-/
import Derived.Test.YthobaffgllipfaaRows
import Derived.Test.YthobaffgllipfaaBase
import Derived.Test.YthobaffgllipfaaRowB
import Derived.Test.YthobaffgllipfaaDecA
import Derived.Test.YthobaffgllipfaaDecS
import Derived.Test.YthobaffgllipfaaDMod
import Derived.Test.YthobaffgllipfaaDFlo
import Derived.Test.YthobaffgllipfaaProg
import Derived.Test.YthobaffgllipfaaShelf
import Derived.Test.YthobaffgllipfaaPrintL
import Derived.Test.YthobaffgllipfaaDPrint
import Derived.Test.YthobaffgllipfaaDRnd
import Derived.Test.YthobaffgllipfaaKnuth
import Derived.Test.YthobaffgllipfaaDDiv
import Derived.Test.YthobaffgllipfaaValA
import Derived.Test.YthobaffgllipfaaDecK
import Derived.Test.YthobaffgllipfaaDDivA
import Derived.Laws.Externs
import Derived.Maps.AppendAt
import Derived.WalkSpells
import Derived.WalkLawsBesides
import Derived.StillTactics
import Derived.Laws.Pointers
import Derived.Deep.RegionHeld3
import Derived.Deep.QuietTactic
import Derived.BigQuiet
import Derived.RowKit3
import Derived.Lib.Hide
import Derived.Lib.OthersKept
import Derived.OwnWalk
import Derived.Lib.IndexLaws
import Derived.Lib.ItoaMem
import Derived.WalkKit
import Derived.ProofKit
import Derived.OpenShut
import Derived.Carry
import Derived.ChangeSame
import Derived.Deep.Draws
import Derived.Laws.BitsAllLaws
import Derived.Shelf.Small.Bits
import Derived.Shelf.Strconv.Itoa0
import Derived.Shelf.Bits.Mul64
import Derived.Lib.TrimByte
import Derived.Lib.Bytealg
import Derived.Lib.SlTrimSet
import Derived.Lib.ParseIntB
import Derived.Shelf.Strings.SlTrimAscii
import Derived.Lib.SmallJoins
namespace Go.Proofs.Ythobaffgllipfaa
open Go.RowKit

/-- the number that words of sixty-four bits make, the lowest first -/
def valB : List Nat → Nat
  | [] => 0
  | d :: l => d + 18446744073709551616 * valB l
theorem valB_snoc : ∀ (l : List Nat) (d : Nat), valB (l ++ [d]) = valB l + 18446744073709551616 ^ l.length * d
  | [], d => by simp [valB]
  | e :: l, d => by
    simp only [List.cons_append, valB, valB_snoc l d, List.length_cons, Nat.pow_succ]
    rw [Nat.mul_add, Nat.add_assoc, Nat.mul_comm (18446744073709551616 ^ l.length) 18446744073709551616, Nat.mul_assoc]
theorem times_step (V X P d x o hi lo : Nat) (hV : V + P * o = X * x) (hd : d * x + o = hi * 18446744073709551616 + lo) : V + P * lo + P * 18446744073709551616 * hi = (X + P * d) * x := by
  have h1 : P * (d * x + o) = P * (hi * 18446744073709551616 + lo) := by rw [hd]
  have e1 : P * (d * x + o) = P * d * x + P * o := by rw [Nat.mul_add, Nat.mul_assoc]
  have e2 : P * (hi * 18446744073709551616 + lo) = P * 18446744073709551616 * hi + P * lo := by rw [Nat.mul_add, Nat.mul_comm hi 18446744073709551616, ← Nat.mul_assoc]
  have e3 : (X + P * d) * x = X * x + P * d * x := Nat.add_mul _ _ _
  rw [e3]
  omega
/-- words that come back -/
structure WordsAt (v : Nat) (n : Nat) (q : List Nat → Prop) (w : World) (e : Ending) (w' : World) : Prop where
  out : ∃ u l, e = .returned u ∧ w'.ownsRow w.heap.size 76 1 u l.length (l.map fun (n : Nat) => Value.int .u64 (n : Int)) ∧ valB l = v ∧ (∀ d ∈ l, d < 18446744073709551616) ∧ l.length ≤ n ∧ q l ∧ Below w.heap.size w w'
theorem add64_at (x y sm cr : Nat) (h1 : (x + y) % 18446744073709551616 = sm) (h2 : (x + y) / 18446744073709551616 = cr) (w : World) : Sem.run Try.prog (callFunc 75 #[.int .u64 (x : Int), .int .u64 (y : Int), .int .u64 0]) w = .ok (.value (.tuple #[.int .u64 (sm : Int), .int .u64 (cr : Int)])) w := by
  rw [run_callFunc_extern Try.func75 (by kernel_rfl) (by kernel_rfl) (by kernel_rfl) (e := add64Entry) (by kernel_rfl), run_add64 _ _ 0 (by omega) (by omega) (by omega) (by omega)]
  have e1 : ((x : Int) + (y : Int) + 0) % 18446744073709551616 = (sm : Int) := by omega
  have e2 : ((x : Int) + (y : Int) + 0) / 18446744073709551616 = (cr : Int) := by omega
  rw [e1, e2]
  rfl
set_option maxRecDepth 100000 in
set_option maxHeartbeats 4000000 in
theorem times_any (l : List Nat) (hl : ∀ d ∈ l, d < 18446744073709551616) (hlen : l.length ≤ 1000) (x : Nat) (hx : x < 18446744073709551616) (w : World) (A : Option Addr) (cap : Nat) (hR : RdB w w.heap.size A 1 (l.map fun (d : Nat) => [Value.int .u64 (d : Int)])) : Calls Try.prog 63 #[.slice A l.length cap, .int .u64 (x : Int)] w (WordsAt (valB l * x) (l.length + 1) (fun u => u.length = l.length ∨ 18446744073709551616 ^ l.length ≤ valB u) w) := by
  obtain ⟨i0, hi, hz0, hz1, hz2⟩ := info_parts u64_info
  have hl' := Lib.hid hl
  have hR' := Lib.hid hR
  clear hl hR
  go_enter Try.func63, Try.ntmps63
  go_wp2
  go_loopw [5, 6, 15] (fun v ov i wr => ∃ k : Nat, k ≤ l.length ∧ i = .int .i64 (k : Int) ∧ ∃ (o : Nat) (outs : List Nat), ov = .int .u64 (o : Int) ∧ o < 18446744073709551616 ∧ outs.length = k ∧ Hid (valB outs + 18446744073709551616 ^ k * o = valB (l.take k) * x) ∧ Hid (∀ d ∈ outs, d < 18446744073709551616) ∧ wr.ownsRow w.heap.size 76 1 v k (outs.map fun (n : Nat) => Value.int .u64 (n : Int)) ∧ Below w.heap.size w wr) (fun _ _ i _ => l.length - (intOf i).toNat)
  case atStart => exact ⟨0, Nat.zero_le _, rfl, 0, [], rfl, by omega, rfl, Lib.hid (by simp [valB]), Lib.hid (by simp), World.ownsRow_nil _ _ _ _, Below.refl _ _⟩
  case round =>
    obtain ⟨k, hk, rfl, o, outs, rfl, hob, hol, hval, hdig, hown, hbr⟩ := hrel
    have hzr := hbr.size
    have hol' := Lib.hid hol
    clear hol
    by_cases hlt : k < l.length
    · obtain ⟨d, hd⟩ : ∃ d, l[k]? = some d := ⟨_, List.getElem?_eq_getElem hlt⟩
      obtain ⟨b, off, rfl, hbb, hcell⟩ := (hR'.out.below hbr) k [.int .u64 (d : Int)] (by rw [List.getElem?_map, hd]; rfl)
      have hck : wr.cell? ⟨b, off + k, none⟩ = some (.int .u64 (d : Int)) := by simpa using hcell 0 _ rfl
      have hdb := hl'.out d (List.mem_of_getElem? hd)
      have hts : l.take (k + 1) = l.take k ++ [d] := by rw [List.take_add_one, hd]; rfl
      have hts' := Lib.hid hts
      have hlk : (l.take k).length = k := by rw [List.length_take]; omega
      have hkl : (k : Int) < (l.length : Int) := by omega
      have hbr2 : b < wr.heap.size := by omega
      obtain ⟨p, hp⟩ : ∃ p, d * x = p := ⟨_, rfl⟩
      have hpb : p ≤ 18446744073709551615 * 18446744073709551615 := by rw [← hp]; exact Nat.mul_le_mul (by omega) (by omega)
      have C1 := Lib.hid (mul64_r (d : Int) d x (p / 18446744073709551616) (p % 18446744073709551616) rfl hdb hx (by rw [hp]) (by rw [hp]) wr)
      obtain ⟨ph, hph⟩ : ∃ ph, p / 18446744073709551616 = ph := ⟨_, rfl⟩
      obtain ⟨pl, hpl⟩ : ∃ pl, p % 18446744073709551616 = pl := ⟨_, rfl⟩
      rw [hph, hpl] at C1
      obtain ⟨sm, hsm⟩ : ∃ sm, (pl + o) % 18446744073709551616 = sm := ⟨_, rfl⟩
      obtain ⟨cr, hcr⟩ : ∃ cr, (pl + o) / 18446744073709551616 = cr := ⟨_, rfl⟩
      have A2 := add64_at pl o sm cr hsm hcr wr
      have a1 : ((pl : Int) + (o : Int)) % 18446744073709551616 = (sm : Int) := by rw [← hsm]; omega
      have a2 : ((pl : Int) + (o : Int)) / 18446744073709551616 = (cr : Int) := by rw [← hcr]; omega
      have a3 : IntKind.u64.wrap ((ph : Int) + (cr : Int)) = ((ph + cr : Nat) : Int) := by rw [IntKind.wrap_u64]; omega
      have hs2 : p + o = (ph + cr) * 18446744073709551616 + sm := by omega
      have hst : valB outs + 18446744073709551616 ^ k * sm + 18446744073709551616 ^ k * 18446744073709551616 * (ph + cr) = (valB (l.take k) + 18446744073709551616 ^ k * d) * x := times_step _ _ _ d x o (ph + cr) sm hval.out (by rw [hp]; exact hs2)
      have hst' := Lib.hid hst
      have hsb : sm < 18446744073709551616 := by omega
      have hcb : ph + cr < 18446744073709551616 := by omega
      have hlk' := Lib.hid hlk
      clear hd hcell hts hp hph hpl hsm hcr hs2 hst hlk hval
      go_wp2_with fail
      refine C1.out.mono ?_
      rintro e w' ⟨rfl, rfl⟩
      go_wp2_with (at_builtin; refine wpList_append_own_at _ rfl _ _ 84 rfl w.heap.size 76 i0 (.int .u64 0) 1 8 Try.underlying84 hi hz0 hz1 hz2 rfl (by decide) _ _ _ rfl (hown.alloc _) ⟨wr.heap.size, 0, none⟩ 1 1 [.int .u64 (sm : Int)] rfl rfl (cell_one_new _ _ _) (by simp [Value.oneCell']) (by unfold maxLen; omega) (by omega) (by simp; omega) ?_; intro v' w1 hown1 hgrow1 hnil1 hloc1)
      go_roundw
      case rel =>
        refine ⟨k + 1, by omega, by go_num, ph + cr, outs ++ [sm], by first | rfl | simp, hcb, by rw [List.length_append, hol'.out]; rfl, Lib.hid ?_, Lib.hid ?_, ?_, ?_⟩
        · rw [valB_snoc, hts'.out, valB_snoc, hol'.out, hlk'.out, Nat.pow_succ]; exact hst'.out
        · intro y hy
          rcases List.mem_append.1 hy with h | h
          · exact hdig.out y h
          · simp at h; omega
        · rw [List.map_append]; exact hown1
        · refine (hbr.alloc hzr _).grown hgrow1 (by simp; omega) (fun j hj => ?_)
          exact (hown.lt j hj).1
      case measure => simp [intOf]; omega
    · obtain rfl : k = l.length := by omega
      have hv0 := hval.out
      rw [List.take_length] at hv0
      by_cases ho : 0 < o
      · have ho1 : decide ((0 : Int) < (o : Int)) = true := by simp; omega
        have hv0' := Lib.hid hv0
        clear hv0
        go_wp2_with (at_builtin; refine wpList_append_own_at _ rfl _ _ 84 rfl w.heap.size 76 i0 (.int .u64 0) 1 8 Try.underlying84 hi hz0 hz1 hz2 rfl (by decide) _ _ _ rfl (hown.alloc _) ⟨wr.heap.size, 0, none⟩ 1 1 [.int .u64 (o : Int)] rfl rfl (cell_one_new _ _ _) (by simp [Value.oneCell']) (by unfold maxLen; omega) (by omega) (by simp; omega) ?_; intro v' w1 hown1 hgrow1 hnil1 hloc1)
        go_ret
        refine ⟨_, outs ++ [o], rfl, ?_, ?_, ?_, ?_, .inr ?_, ?_⟩
        · rw [List.map_append, List.length_append, hol'.out]; exact hown1
        · rw [valB_snoc, hol'.out]; exact hv0'.out
        · intro y hy
          rcases List.mem_append.1 hy with h | h
          · exact hdig.out y h
          · simp at h; omega
        · rw [List.length_append, hol'.out]; exact Nat.le_refl _
        · rw [valB_snoc, hol'.out]
          exact Nat.le_trans (Nat.le_mul_of_pos_right _ ho) (Nat.le_add_left _ _)
        · refine (hbr.alloc hzr _).grown hgrow1 (by simp; omega) (fun j hj => ?_)
          exact (hown.lt j hj).1
      · obtain rfl : o = 0 := by omega
        have hv0' := Lib.hid hv0
        clear hv0
        go_wp2
        go_ret
        exact ⟨_, outs, rfl, by rw [hol'.out]; exact hown, by have := hv0'.out; omega, hdig.out, by rw [hol'.out]; omega, .inl hol'.out, hbr⟩
end Go.Proofs.Ythobaffgllipfaa
