/-
  nums: the laws' own call.
-/
import Derived.Test.YthobaffgllipfaaGreatRows
import Derived.Test.YthobaffgllipfaaGreatBase
import Derived.Test.YthobaffgllipfaaGreatMapK
import Derived.Test.YthobaffgllipfaaGreatNFind
import Derived.Test.YthobaffgllipfaaGreatMg3
import Derived.Test.YthobaffgllipfaaGreatValA
import Derived.Test.YthobaffgllipfaaGreatValB
import Derived.Test.YthobaffgllipfaaGreatDecS
import Derived.Test.YthobaffgllipfaaGreatValC
import Derived.Test.YthobaffgllipfaaGreatAddrC
import Derived.Test.YthobaffgllipfaaGreatMg9
import Derived.Test.YthobaffgllipfaaGreatDMod
import Derived.Test.YthobaffgllipfaaGreatDFlo
import Derived.Test.YthobaffgllipfaaGreatProg
import Derived.Test.YthobaffgllipfaaGreatMg12
import Derived.Test.YthobaffgllipfaaGreatDRnd
import Derived.Test.YthobaffgllipfaaGreatMg14
import Derived.Test.YthobaffgllipfaaGreatKnuth
import Derived.Test.YthobaffgllipfaaGreatDDiv
import Derived.Test.YthobaffgllipfaaGreatMg17
import Derived.Test.YthobaffgllipfaaGreatNDoA
import Derived.Test.YthobaffgllipfaaGreatNDoB
import Derived.Test.YthobaffgllipfaaGreatNDoC
import Derived.Test.YthobaffgllipfaaGreatMg21
import Derived.Test.YthobaffgllipfaaGreatNCall
import Derived.Test.YthobaffgllipfaaGreatValL
import Derived.Test.YthobaffgllipfaaGreatNCallK
import Derived.Test.YthobaffgllipfaaGreatNCallB
import Derived.Test.YthobaffgllipfaaGreatNDoF
import Derived.Test.YthobaffgllipfaaGreatMg27
import Derived.Test.YthobaffgllipfaaGreatNDoQ
import Derived.Maps.AppendAt
import Derived.WalkSpells
import Derived.WalkLawsBesides
import Derived.StillTactics
import Derived.Laws.Pointers
import Derived.Deep.RegionHeld3
import Derived.Deep.QuietTactic
import Derived.BigQuiet
import Derived.RowKit3
import Derived.Lib.Hide
import Derived.Lib.OthersKept
import Derived.OwnWalk
import Derived.Lib.IndexLaws
import Derived.Lib.ItoaMem
import Derived.WalkKit
import Derived.ProofKit
import Derived.OpenShut
import Derived.Carry
import Derived.ChangeSame
import Derived.Deep.Draws
import Derived.Maps.OwnSet
import Derived.Laws.EntriesVeiled
import Derived.Laws.BitsAllLaws
import Derived.Shelf.Small.Bits
import Derived.Shelf.Strconv.Itoa0
import Derived.Shelf.Bits.Mul64
import Derived.Lib.TrimByte
import Derived.Lib.Bytealg
import Derived.Lib.SlTrimSet
import Derived.Lib.ParseIntB
import Derived.Shelf.Strings.SlTrimAscii
import Derived.Lib.SmallJoins
import Derived.Deep.RegionWith
namespace Go.Proofs.YthobaffgllipfaaGreat
open Go.RowKit

set_option maxHeartbeats 400000 in
theorem lnum_any (x : Int) (w : World) : Calls Tryz.prog 22 #[.int .i64 x] w fun e w' => e = .returned (.agg #[.int .i64 1, .int .i64 x, .string ⟨#[]⟩, .bool false, .int .i64 0]) ∧ Below w.heap.size w w' := by
  go_enter Tryz.func22, Tryz.ntmps22
  go_wp2
  refine bodyPost_ret (v := .agg #[.int .i64 1, .int .i64 x, .string ⟨#[]⟩, .bool false, .int .i64 0]) ?_ rfl ⟨rfl, by (repeat (first | (with_reducible exact Below.refl _ _) | (with_reducible refine Below.alloc ?_ (by first | omega | (dsimp only; omega) | (simp <;> omega)) _) | (with_reducible refine Below.setCell ?_ (by first | omega | (dsimp only; omega) | (simp <;> omega)) _) | (with_reducible refine Below.drew ?_) | (with_reducible refine below_drewN ?_ _) | (with_reducible refine Below.trans ?_ (Below.mono (by assumption) (by first | omega | (dsimp only; omega) | (simp <;> omega))))))⟩
  simp [results, Tryz.results22, go_sem, *]
set_option maxHeartbeats 1000000 in
theorem lsingle_any (t n : Int) (s : ByteArray) (b : Bool) (c : Int) (w : World) : Calls Tryz.prog 71 #[.agg #[.int .i64 t, .int .i64 n, .string s, .bool b, .int .i64 c]] w fun e w' => e = .returned (.agg #[.bool false, .int .i64 t, .int .i64 n, .string s, .bool b, .int .i64 c, .int .i64 0, .int .i64 0, .int .i64 0, .int .i64 0, .slice none 0 0]) ∧ Below w.heap.size w w' := by
  go_enter Tryz.func71, Tryz.ntmps71
  go_wp2
  refine bodyPost_ret (v := .agg #[.bool false, .int .i64 t, .int .i64 n, .string s, .bool b, .int .i64 c, .int .i64 0, .int .i64 0, .int .i64 0, .int .i64 0, .slice none 0 0]) ?_ rfl ⟨rfl, by (repeat (first | (with_reducible exact Below.refl _ _) | (with_reducible refine Below.alloc ?_ (by first | omega | (dsimp only; omega) | (simp <;> omega)) _) | (with_reducible refine Below.setCell ?_ (by first | omega | (dsimp only; omega) | (simp <;> omega)) _) | (with_reducible refine Below.drew ?_) | (with_reducible refine below_drewN ?_ _) | (with_reducible refine Below.trans ?_ (Below.mono (by assumption) (by first | omega | (dsimp only; omega) | (simp <;> omega))))))⟩
  simp [results, Tryz.results71, go_sem, *]
theorem arg_info : (Tryz.prog.info? 35).map (fun i => (i.zero, i.size, i.bytes)) = some (some (.agg #[.bool false, .int .i64 0, .int .i64 0, .string ⟨#[]⟩, .bool false, .int .i64 0, .int .i64 0, .int .i64 0, .int .i64 0, .int .i64 0, .slice none 0 0]), 11, 112) := by kernel_rfl
/-- an argument that is a value -/
def sglL (v : VL) : AL := ⟨false, v, 0, 0, 0, 0, none, 0, []⟩
def nuL (x : Int) : VL := ⟨1, x, ⟨#[]⟩, false, 0⟩
theorem flat_at {k : Nat} : ∀ (l : List (List Value)), (∀ c ∈ l, c.length = k) → ∀ (i : Nat) (c : List Value), l[i]? = some c → ∀ (j : Nat) (u : Value), c[j]? = some u → l.flatten[i * k + j]? = some u
  | [], _, i, c, h, _, _, _ => by simp at h
  | d :: l, hl, i, c, h, j, u, hu => by
    have hd := hl d (by simp)
    rw [List.flatten_cons]
    cases i with
    | zero =>
      simp at h; subst h
      have : j < d.length := (List.getElem?_eq_some_iff.1 hu).1
      rw [Nat.zero_mul, Nat.zero_add, List.getElem?_append_left this]; exact hu
    | succ i =>
      have h2 : l[i]? = some c := by simpa using h
      have := flat_at l (fun c hc => hl c (by simp [hc])) i c h2 j u hu
      rw [List.getElem?_append_right (by rw [hd, Nat.succ_mul]; omega), hd]
      rw [show (i + 1) * k + j - k = i * k + j by rw [Nat.succ_mul]; omega]
      exact this
theorem ownsRow_rdk {w : World} {B k : Nat} {e : TypeId} {v : Value} {n : Nat} {l : List (List Value)} (_hk : 0 < k) (hl : ∀ c ∈ l, c.length = k) (hn : l.length = n) (h : w.ownsRow B e k v n l.flatten) : ∃ A cap, v = .slice A n cap ∧ RdB w w.heap.size A k l := by
  obtain ⟨h1, h2⟩ := h
  rcases h2 with ⟨rfl, rfl⟩ | ⟨g, cap, cur, rfl, hB, hh, hnc, hm, hs, ht⟩
  · exact ⟨none, 0, rfl, fun i c hi => by
      have : i < l.length := (List.getElem?_eq_some_iff.1 hi).1
      omega⟩
  · refine ⟨_, cap, rfl, fun i c hi => ⟨g, 0, rfl, (Array.getElem?_eq_some_iff.1 hh).1, fun j u hu => ?_⟩⟩
    have hf := flat_at l hl i c hi j u hu
    have hlt : i * k + j < l.flatten.length := (List.getElem?_eq_some_iff.1 hf).1
    rw [cell_of_row w g _ cur _ (0, 0) hh, ← Array.getElem?_toList, Nat.zero_add]
    rw [← ht, List.getElem?_take] at hf
    rw [h1] at hlt
    rw [if_pos hlt] at hf
    exact hf
theorem sgl_cs (v : VL) : (sglL v).cs.length = 11 := rfl
theorem nu_may {x : Int} (h : x ≠ -9223372036854775808) : vMay 1 x ⟨#[]⟩ false 0 = true := by
  rw [vMay_iff]; exact ⟨by omega, by omega, .inl rfl, .inr rfl, .inr rfl, .inr rfl, fun _ => h, fun h2 => by omega⟩
theorem nu_may2 {x : Int} (h : -9223372036854775807 ≤ x ∧ x ≤ 9223372036854775807) : (nuL x).may = true := by
  have : x ≠ -9223372036854775808 := by omega
  exact nu_may this
theorem sgl_mays (l : List VL) (h : ∀ v ∈ l, v.ok) : MaysAt (l.map sglL) := ⟨fun x hx w _ => by
  obtain ⟨v, hv, rfl⟩ := List.mem_map.1 hx
  have := nmay_single v.t v.n v.s v.b v.c (h v hv) 0 0 0 0 none 0 0 w
  simpa [sglL, argMay, rZero, VL.may] using this⟩
theorem nums_mays (l : List Int) (hl : ∀ x ∈ l, -9223372036854775807 ≤ x ∧ x ≤ 9223372036854775807) : MaysAt (l.map fun x => sglL (nuL x)) := by
  have e : (l.map fun x => sglL (nuL x)) = (l.map nuL).map sglL := by rw [List.map_map]; rfl
  rw [e]
  refine sgl_mays _ fun v hv => ?_
  obtain ⟨x, hx, rfl⟩ := List.mem_map.1 hv
  have := hl x hx
  exact ⟨by show _ ≤ x; omega, by show x ≤ _; omega⟩
theorem callR_nums (name : ByteArray) (l : List Int) (hl : ∀ x ∈ l, -9223372036854775807 ≤ x ∧ x ≤ 9223372036854775807) (r : VL) : callR name (l.map fun x => sglL (nuL x)) r = if takesN name l.length false = true then r else errL 8 := by
  have hm : ∀ x ∈ l, (nuL x).may = true := fun x hx => nu_may2 (hl x hx)
  unfold callR
  rw [if_neg (by
    simp only [Bool.not_eq_false, List.all_eq_true]
    intro y hy
    obtain ⟨x, hx, rfl⟩ := List.mem_map.1 hy
    have := hm x hx
    simp [argMay, sglL, rZero, this])]
  rw [List.length_map, List.any_map]
  have : (l.any ((fun x => true == x.many) ∘ fun x => sglL (nuL x))) = false := by simp [sglL]
  rw [this]
  cases takesN name l.length false
  · simp
  · simp only [Bool.true_eq_false, if_false, if_true]
    unfold callS
    rw [List.find?_eq_none.2 (by
      intro y hy
      obtain ⟨x, hx, rfl⟩ := List.mem_map.1 hy
      simp [sglL, nuL])]
    simp only
    unfold callS2
    rw [List.find?_eq_none.2 (by
      intro y hy
      obtain ⟨x, hx, rfl⟩ := List.mem_map.1 hy
      have := hm x hx
      simp only [sglL, VL.asC, this, if_true]
      simp [nuL])]
theorem asN_nums (l : List Int) (hl : ∀ x ∈ l, -9223372036854775807 ≤ x ∧ x ≤ 9223372036854775807) : ((l.map fun x => sglL (nuL x)).map fun x => x.v.asN) = l := by
  rw [List.map_map]
  conv => rhs; rw [← List.map_id l]
  refine List.map_congr_left fun x hx => ?_
  have := hl x hx
  show (nuL x).asN = x
  unfold VL.asN
  rw [if_pos (nu_may2 this)]
  rfl
set_option maxRecDepth 100000 in
set_option maxHeartbeats 4000000 in
theorem lcall_any (name : ByteArray) (hs : name.size ≤ 9223372036854775807) (l : List Int) (hl : ∀ x ∈ l, -9223372036854775807 ≤ x ∧ x ≤ 9223372036854775807) (hlen : l.length ≤ 1000000) (r : VL) (ht : takesN name l.length false = true) (hD : DoAt name l r) (w : World) (lb cap : Nat) (hg : lb < w.heap.size) (hc : ∀ (j : Nat) (x : Int), l[j]? = some x → w.cell? ⟨lb, j, none⟩ = some (.int .i64 x)) : Calls Tryz.prog 21 #[.string name, .slice (some ⟨lb, 0, none⟩) l.length cap] w fun e w' => e = .returned (.agg #[.int .i64 (r).t, .int .i64 (r).n, .string (r).s, .bool (r).b, .int .i64 (r).c]) ∧ Below w.heap.size w w' := by
  obtain ⟨i0, hi, hz0, hz1, hz2⟩ := info_parts arg_info
  have hc' := Lib.hid hc
  have hl' := Lib.hid hl
  have hcr := callR_nums name l hl r
  rw [if_pos ht] at hcr
  have hcr' := Lib.hid hcr
  have b0 : Below w.heap.size w (w.alloc (.cells #[.int .i64 0, .int .i64 0, .string ⟨#[]⟩, .bool false, .int .i64 0] 26)) := (Below.refl _ _).alloc (Nat.le_refl _) _
  clear hc hl hcr
  go_enter Tryz.func21, Tryz.ntmps21
  go_wp2
  go_loopw [5, 6] (fun v i wr => ∃ k : Nat, k ≤ l.length ∧ i = .int .i64 (k : Int) ∧ wr.ownsRow (w.heap.size + 1) 35 11 v k ((l.take k).map fun x => (sglL (nuL x)).cs).flatten ∧ Below (w.heap.size + 1) (w.alloc (.cells #[.int .i64 0, .int .i64 0, .string ⟨#[]⟩, .bool false, .int .i64 0] 26)) wr) (fun _ i _ => l.length - (intOf i).toNat)
  case atStart => exact ⟨0, Nat.zero_le _, rfl, World.ownsRow_nil _ _ _ _, Below.refl _ _⟩
  case round =>
    obtain ⟨k, hk, rfl, hown, hbr⟩ := hrel
    have hzr := hbr.size
    simp only [World.size_alloc] at hzr
    have g0 : Below w.heap.size w wr := b0.trans (hbr.mono (by omega))
    by_cases hlt : k < l.length
    · obtain ⟨x, hx⟩ : ∃ x, l[k]? = some x := ⟨_, List.getElem?_eq_getElem hlt⟩
      have hck : wr.cell? ⟨lb, k, none⟩ = some (.int .i64 x) := (g0.cell (p := ⟨lb, k, none⟩) hg).trans (hc'.out k x hx)
      have hts : l.take (k + 1) = l.take k ++ [x] := by rw [List.take_add_one, hx]; rfl
      have hts' := Lib.hid hts
      have hkl : (k : Int) < (l.length : Int) := by omega
      clear hx hts
      go_wp2_with fail
      refine (lnum_any x _).mono ?_
      rintro e w1 ⟨rfl, hb1⟩
      go_wp2_with fail
      refine (lsingle_any 1 x ⟨#[]⟩ false 0 _).mono ?_
      rintro e w2 ⟨rfl, hb2⟩
      have hown2 := ownsRow_below (ownsRow_below hown hb1) hb2
      have g2 : Below (w.heap.size + 1) (w.alloc (.cells #[.int .i64 0, .int .i64 0, .string ⟨#[]⟩, .bool false, .int .i64 0] 26)) w2 := (hbr.trans (hb1.mono (by omega))).trans (hb2.mono (by have := hb1.size; omega))
      have hz2' := g2.size
      simp only [World.size_alloc] at hz2'
      go_wp2_with (at_builtin; refine wpList_append_own_at _ rfl _ _ 22 rfl (w.heap.size + 1) 35 i0 (.agg #[.bool false, .int .i64 0, .int .i64 0, .string ⟨#[]⟩, .bool false, .int .i64 0, .int .i64 0, .int .i64 0, .int .i64 0, .int .i64 0, .slice none 0 0]) 11 112 Tryz.underlying22 hi hz0 hz1 hz2 rfl (by decide) _ _ _ rfl (hown2.alloc _) ⟨w2.heap.size, 0, none⟩ 1 1 [.bool false, .int .i64 1, .int .i64 x, .string ⟨#[]⟩, .bool false, .int .i64 0, .int .i64 0, .int .i64 0, .int .i64 0, .int .i64 0, .slice none 0 0] rfl rfl (fun j u hj => by have := cell_of_row (w2.alloc (.cells #[.bool false, .int .i64 1, .int .i64 x, .string ⟨#[]⟩, .bool false, .int .i64 0, .int .i64 0, .int .i64 0, .int .i64 0, .int .i64 0, .slice none 0 0] 35)) w2.heap.size j _ _ (0, 0) (heap_alloc_new _ _); simp only [Addr.add]; split <;> simp_all) (by simp [Value.oneCell']) (by unfold maxLen; omega) (by omega) (by simp; omega) ?_; intro v' w3 hown3 hgrow3 hnil3 hloc3)
      go_roundw
      case rel =>
        refine ⟨k + 1, by omega, by go_num, ?_, ?_⟩
        · rw [hts'.out, List.map_append, List.flatten_append]; exact hown3
        · refine (g2.alloc (by omega) _).grown hgrow3 (by simp; omega) (fun j hj => ?_)
          exact (hown2.lt j hj).1
      case measure => simp [intOf]; omega
    · obtain rfl : k = l.length := by omega
      rw [List.take_length] at hown
      obtain ⟨A2, cap2, rfl, hrd⟩ := ownsRow_rdk (by omega) (by intro c hc; obtain ⟨x, _, rfl⟩ := List.mem_map.1 hc; rfl) (by simp) hown
      have CL := ncall_any name hs (l.map fun x => sglL (nuL x)) (by simp; omega) 10 r (nums_mays l hl'.out) (fun _ => by rw [asN_nums l hl'.out]; exact hD) wr A2 cap2 (by rw [List.map_map]; exact hrd) (by
        intro y hy
        obtain ⟨x, hx, rfl⟩ := List.mem_map.1 hy
        have := hl'.out x hx
        exact ⟨⟨by show _ ≤ x; omega, by show x ≤ _; omega⟩, fun i c hi => by simp [sglL] at hi, fun e he => by simp [sglL] at he, by simp [sglL]⟩)
      rw [hcr'.out, List.length_map] at CL
      have CL' := Lib.hid CL
      have hlr : w.heap.size < wr.heap.size := by omega
      have hlr2 : w.heap.size ≤ wr.heap.size := by omega
      have hr0 : wr.cell? ⟨w.heap.size, 0, none⟩ = some (.int .i64 0) := by rw [hbr.cell (by dsimp only; omega)]; simp
      have hs0 : wr.frozen? ⟨w.heap.size, 0, none⟩ = false := by rw [hbr.frozen (by dsimp only; omega)]; simp
      have hr1 : wr.cell? ⟨w.heap.size, 1, none⟩ = some (.int .i64 0) := by rw [hbr.cell (by dsimp only; omega)]; simp
      have hs1 : wr.frozen? ⟨w.heap.size, 1, none⟩ = false := by rw [hbr.frozen (by dsimp only; omega)]; simp
      have hr2 : wr.cell? ⟨w.heap.size, 2, none⟩ = some (.string ⟨#[]⟩) := by rw [hbr.cell (by dsimp only; omega)]; simp
      have hs2 : wr.frozen? ⟨w.heap.size, 2, none⟩ = false := by rw [hbr.frozen (by dsimp only; omega)]; simp
      have hr3 : wr.cell? ⟨w.heap.size, 3, none⟩ = some (.bool false) := by rw [hbr.cell (by dsimp only; omega)]; simp
      have hs3 : wr.frozen? ⟨w.heap.size, 3, none⟩ = false := by rw [hbr.frozen (by dsimp only; omega)]; simp
      have hr4 : wr.cell? ⟨w.heap.size, 4, none⟩ = some (.int .i64 0) := by rw [hbr.cell (by dsimp only; omega)]; simp
      have hs4 : wr.frozen? ⟨w.heap.size, 4, none⟩ = false := by rw [hbr.frozen (by dsimp only; omega)]; simp
      clear CL hrd hown
      go_wp2_with fail
      refine CL'.out.mono ?_
      rintro e wd ⟨rfl, hbd⟩
      obtain ⟨hc, hf, hz⟩ := bkeep hbd wr.heap.size (by simp)
      go_wp2
      refine bodyPost_ret (v := .agg #[.int .i64 (r).t, .int .i64 (r).n, .string (r).s, .bool (r).b, .int .i64 (r).c]) ?_ rfl ⟨rfl, by (repeat (first | (with_reducible exact Below.refl _ _) | (with_reducible refine Below.alloc ?_ (by first | omega | (dsimp only; omega) | (simp <;> omega)) _) | (with_reducible refine Below.setCell ?_ (by first | omega | (dsimp only; omega) | (simp <;> omega)) _) | (with_reducible refine Below.drew ?_) | (with_reducible refine below_drewN ?_ _) | (with_reducible refine Below.trans ?_ (Below.mono (by assumption) (by first | omega | (dsimp only; omega) | (simp <;> omega))))))⟩
      simp [results, Tryz.results21, go_sem, *]
end Go.Proofs.YthobaffgllipfaaGreat
