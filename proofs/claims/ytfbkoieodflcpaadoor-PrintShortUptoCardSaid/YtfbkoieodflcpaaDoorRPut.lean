/-
  orielref05: put.
-/
import Derived.Test.YtfbkoieodflcpaaDoorMg4
import Derived.Test.YtfbkoieodflcpaaDoorRows
import Derived.Test.YtfbkoieodflcpaaDoorBase
import Derived.Test.YtfbkoieodflcpaaDoorProg
import Derived.Test.YtfbkoieodflcpaaDoorShelf
import Derived.Test.YtfbkoieodflcpaaDoorAddrC
import Derived.Test.YtfbkoieodflcpaaDoorNames
import Derived.Test.YtfbkoieodflcpaaDoorMg7
import Derived.Test.YtfbkoieodflcpaaDoorDecA
import Derived.Test.YtfbkoieodflcpaaDoorValA
import Derived.Test.YtfbkoieodflcpaaDoorValB
import Derived.Test.YtfbkoieodflcpaaDoorMg11
import Derived.Test.YtfbkoieodflcpaaDoorLexP
import Derived.Test.YtfbkoieodflcpaaDoorRowB
import Derived.Test.YtfbkoieodflcpaaDoorMapK
import Derived.Test.YtfbkoieodflcpaaDoorArgK
import Derived.Test.YtfbkoieodflcpaaDoorRefP
import Derived.Test.YtfbkoieodflcpaaDoorMg17
import Derived.Test.YtfbkoieodflcpaaDoorRefN
import Derived.Test.YtfbkoieodflcpaaDoorRefM
import Derived.Test.YtfbkoieodflcpaaDoorRNam
import Derived.Test.YtfbkoieodflcpaaDoorRNod
import Derived.Test.YtfbkoieodflcpaaDoorRefY
import Derived.Test.YtfbkoieodflcpaaDoorRefQ
import Derived.Test.YtfbkoieodflcpaaDoorRefZ
import Derived.Test.YtfbkoieodflcpaaDoorRLev
import Derived.Test.YtfbkoieodflcpaaDoorRNodB
import Derived.Test.YtfbkoieodflcpaaDoorRPt
import Derived.Test.YtfbkoieodflcpaaDoorRPtB
import Derived.Outline
import Derived.Deep.CutRange
import Derived.Deep.AppendLies
import Derived.WalkSpells
import Derived.WalkLawsBesides
import Derived.StillTactics
import Derived.Laws.Pointers
import Derived.Deep.RegionHeld3
import Derived.Deep.QuietTactic
import Derived.BigQuiet
import Derived.RowKit3
import Derived.Lib.Hide
import Derived.Lib.OthersKept
import Derived.OwnWalk
import Derived.Lib.IndexLaws
import Derived.Lib.ItoaMem
import Derived.Lib.TrimByte
import Derived.Lib.SlTrimSet
import Derived.Lib.ParseIntB
import Derived.WalkKit
import Derived.ProofKit
import Derived.OpenShut
import Derived.Carry
import Derived.ChangeSame
import Derived.Deep.Draws
import Derived.Shelf.Strings.Builder1
import Derived.Shelf.Strings.Builder2
import Derived.Shelf.Strings.Trim
import Derived.Shelf.Small.Utf8
import Derived.Shelf.Small.Strs
import Derived.Shelf.Strings.BuilderF
import Derived.Shelf.Strings.BuilderK
import Derived.Shelf.Strconv.Itoa0
import Derived.Shelf.Strconv.Itoa1
import Derived.Shelf.LaysM
import Derived.Shelf.Strconv.Itoa2
import Derived.Shelf.Strconv.Itoa3
import Derived.Shelf.Strings.Search1
import Derived.Shelf.Strings.Search2
import Derived.Shelf.Strings.Search3
import Derived.Shelf.Strings.Count
import Derived.Shelf.Strings.Shaped
import Derived.Shelf.Strings.Split
import Derived.Shelf.Strings.Replace
import Derived.Shelf.Strings.Runes
import Derived.Shelf.Strings.AsciiSet
import Derived.Shelf.Unicode.DecodeSlow
import Derived.Lib.ItoaNum
import Derived.Maps.OwnSet
import Derived.Maps.AppendAt
namespace Go.Proofs.YtfbkoieodflcpaaDoor
open Go.RowKit

theorem own_news {w : World} {B n cap g size : Nat} {e : TypeId} {xs : List Value} (h : w.ownsRow B e size (.slice (some ⟨g, 0, none⟩) n cap) n xs) : ∀ i u, xs[i]? = some u → w.cell? ((⟨g, 0, none⟩ : Addr).add i) = some u := fun i u hu => by
  have h1 : i < n * size := by rw [← h.1]; exact (List.getElem?_eq_some_iff.1 hu).1
  have hadd : (⟨g, 0, none⟩ : Addr).add i = ⟨g, i, none⟩ := by unfold Addr.add; split <;> simp_all
  rw [hadd, h.cellAt i h1, hu]
theorem rd_nil (w : World) (A : Option Addr) : RdB w w.heap.size A 3 (([] : List PL).map PL.cs) := fun i c hi => by simp at hi
theorem rd_up {w w' : World} {A : Option Addr} {k : Nat} {l : List (List Value)} (h : RdB w w.heap.size A k l) (hb : Below w.heap.size w w') : RdB w' w'.heap.size A k l := (h.below hb).mono hb.size
theorem al_cell2 {w : World} {o : Obj} {a : Addr} {v : Value} (h : a.block < w.heap.size) (h2 : w.cell? a = some v) : (w.alloc o).cell? a = some v := by
  rw [World.cell?_alloc_lt _ _ _ h]
  exact h2
theorem sc_cell {w : World} {a p : Addr} {x v : Value} (h : a.block ≠ p.block) (h2 : w.cell? a = some v) : (w.setCell p x).cell? a = some v := by
  rw [← h2]
  exact World.cell?_of_block (heap_setCell_other w p a.block x h)
theorem sc3_cell {w : World} {b o c : Nat} {x y z v : Value} (h : b ≠ c) (h2 : w.cell? ⟨b, o, none⟩ = some v) : (((w.setCell ⟨c, 0, none⟩ x).setCell ⟨c, 1, none⟩ y).setCell ⟨c, 2, none⟩ z).cell? ⟨b, o, none⟩ = some v := sc_cell h (sc_cell h (sc_cell h h2))
theorem row_set3 {w : World} {b : Nat} {a a' c c' d d' : Value} {t : TypeId} (h : w.heap[b]? = some (.cells #[a, c, d] t (0, 0))) : (((w.setCell ⟨b, 0, none⟩ a').setCell ⟨b, 1, none⟩ c').setCell ⟨b, 2, none⟩ d').heap[b]? = some (.cells #[a', c', d'] t (0, 0)) := by
  simp [World.setCell, Array.getElem?_modify, h]
theorem plRow_one' {s : List PL} {u : Value} (h : u ∈ plRow s) : u.oneCell' = true := by
  unfold plRow at h
  obtain ⟨c, hc, hu⟩ := List.mem_flatten.1 h
  obtain ⟨x, _, rfl⟩ := List.mem_map.1 hc
  simp only [PL.cs, List.mem_cons, List.not_mem_nil, or_false] at hu
  rcases hu with rfl | rfl | rfl <;> rfl
set_option maxRecDepth 100000 in
set_option maxHeartbeats 40000000 in
theorem rput (ns : List NL) (hlen : ns.length ≤ 1024) (hok : ∀ n ∈ ns, n.ok) (w : World) (A : Option Addr) (cap : Nat) (hR : RdB w w.heap.size A 15 (ns.map NL.cs)) : Calls Tryd.prog 19 #[.slice A ns.length cap] w fun e w' => ((∃ v st, putP ns = some st ∧ e = .returned (.tuple #[v, .bool true]) ∧ OwnR w' w.heap.size v st) ∨ (putP ns = none ∧ e = .returned (.tuple #[.slice none 0 0, .bool false]))) ∧ Below w.heap.size w w' := by
  obtain ⟨i0, hi, hz0, hz1, hz2⟩ := info_parts rpart_info
  have hR' := Lib.hid hR
  have hok' := Lib.hid hok
  have hno' := Lib.hid (show ∀ j, putP (ns.take j) = none → putP ns = none from fun j h => putP_no ns j h)
  clear hR hok
  go_enter Tryd.func19, Tryd.ntmps19
  go_wp2
  go_loopw [4, 5] (fun l i wr => ∃ (j : Nat) (st : List PL), j ≤ ns.length ∧ i = .int .i64 (j : Int) ∧ Hid (putP (ns.take j) = some st) ∧ Hid (PDeep j st) ∧ st.length ≤ j ∧ OwnR wr w.heap.size l st ∧ Below w.heap.size w wr) (fun _ i _ => ns.length - (intOf i).toNat)
  case atStart => exact ⟨0, [], by omega, rfl, Lib.hid rfl, Lib.hid (fun p hp => by simp at hp), by simp, World.ownsRow_nil _ _ _ _, Below.refl _ _⟩
  case round =>
    obtain ⟨j, st, hj, rfl, hput, hdep, hst, hown, hbr⟩ := hrel
    have hzr := hbr.size
    by_cases hlt : j < ns.length
    · obtain ⟨n, hn⟩ : ∃ n, ns[j]? = some n := ⟨_, List.getElem?_eq_getElem hlt⟩
      have hnok := hok'.out n (List.mem_of_getElem? hn)
      obtain ⟨ab, ao, hA2, hab, hcell⟩ := (hR'.out.below hbr) j n.cs (by rw [List.getElem?_map, hn]; rfl)
      obtain rfl : A = some ⟨ab, ao, none⟩ := hA2
      have hc0 : wr.cell? ⟨ab, ao + j * 15, none⟩ = some (.int .i64 n.kind) := (hcell 0 _ rfl)
      have hc1 : wr.cell? ⟨ab, ao + j * 15 + 1, none⟩ = some (.int .i64 n.v.t) := (hcell 1 _ rfl)
      have hc2 : wr.cell? ⟨ab, ao + j * 15 + 2, none⟩ = some (.int .i64 n.v.n) := (hcell 2 _ rfl)
      have hc3 : wr.cell? ⟨ab, ao + j * 15 + 3, none⟩ = some (.string n.v.s) := (hcell 3 _ rfl)
      have hc4 : wr.cell? ⟨ab, ao + j * 15 + 4, none⟩ = some (.bool n.v.b) := (hcell 4 _ rfl)
      have hc5 : wr.cell? ⟨ab, ao + j * 15 + 5, none⟩ = some (.int .i64 n.v.c) := (hcell 5 _ rfl)
      have hc6 : wr.cell? ⟨ab, ao + j * 15 + 6, none⟩ = some (.int .i64 n.r) := (hcell 6 _ rfl)
      have hc7 : wr.cell? ⟨ab, ao + j * 15 + 7, none⟩ = some (.int .i64 n.c) := (hcell 7 _ rfl)
      have hc8 : wr.cell? ⟨ab, ao + j * 15 + 8, none⟩ = some (.int .i64 n.t) := (hcell 8 _ rfl)
      have hc9 : wr.cell? ⟨ab, ao + j * 15 + 9, none⟩ = some (.int .i64 n.l) := (hcell 9 _ rfl)
      have hc10 : wr.cell? ⟨ab, ao + j * 15 + 10, none⟩ = some (.int .i64 n.b) := (hcell 10 _ rfl)
      have hc11 : wr.cell? ⟨ab, ao + j * 15 + 11, none⟩ = some (.int .i64 n.q) := (hcell 11 _ rfl)
      have hc12 : wr.cell? ⟨ab, ao + j * 15 + 12, none⟩ = some (.int .i64 n.op) := (hcell 12 _ rfl)
      have hc13 : wr.cell? ⟨ab, ao + j * 15 + 13, none⟩ = some (.string n.name) := (hcell 13 _ rfl)
      have hc14 : wr.cell? ⟨ab, ao + j * 15 + 14, none⟩ = some (.int .i64 n.args) := (hcell 14 _ rfl)
      have hput' := Lib.hid (show putP (ns.take (j + 1)) = stepP st n by have h := putP_take ns j n hn; rw [hput.out] at h; exact h)
      have habr : ab < wr.heap.size := by omega
      have hkl : (j : Int) < (ns.length : Int) := by omega
      have hj0 : (0 : Int) ≤ (j : Int) := by omega
      have hwj : IntKind.i64.wrap ((j : Int) + 1) = (j : Int) + 1 := IntWalk.i64_in _ (by omega)
      clear hcell hn
      obtain ⟨m, hm⟩ : ∃ m, n.may = m := ⟨_, rfl⟩
      obtain ⟨kI, hkI⟩ : ∃ kI, takesI n = kI := ⟨_, rfl⟩
      have CN := Lib.hid (fun w0 => rnode n hnok m hm w0)
      have CT := Lib.hid (fun w0 => rref_takes n kI hkI w0)
      have hmH := Lib.hid hm
      have hkH := Lib.hid hkI
      clear hm hkI hnok
      go_wp2_with fail
      go_at_call 31
      refine (CN.out _).mono ?_
      rintro e w1 ⟨rfl, hb1⟩
      have hbr1 : Below w.heap.size w w1 := hbr.trans (hb1.mono hbr.size)
      have hm0 := (hb1.cell (p := ⟨ab, _, none⟩) habr).trans hc0
      have hm1 := (hb1.cell (p := ⟨ab, _, none⟩) habr).trans hc1
      have hm2 := (hb1.cell (p := ⟨ab, _, none⟩) habr).trans hc2
      have hm3 := (hb1.cell (p := ⟨ab, _, none⟩) habr).trans hc3
      have hm4 := (hb1.cell (p := ⟨ab, _, none⟩) habr).trans hc4
      have hm5 := (hb1.cell (p := ⟨ab, _, none⟩) habr).trans hc5
      have hm6 := (hb1.cell (p := ⟨ab, _, none⟩) habr).trans hc6
      have hm7 := (hb1.cell (p := ⟨ab, _, none⟩) habr).trans hc7
      have hm8 := (hb1.cell (p := ⟨ab, _, none⟩) habr).trans hc8
      have hm9 := (hb1.cell (p := ⟨ab, _, none⟩) habr).trans hc9
      have hm10 := (hb1.cell (p := ⟨ab, _, none⟩) habr).trans hc10
      have hm11 := (hb1.cell (p := ⟨ab, _, none⟩) habr).trans hc11
      have hm12 := (hb1.cell (p := ⟨ab, _, none⟩) habr).trans hc12
      have hm13 := (hb1.cell (p := ⟨ab, _, none⟩) habr).trans hc13
      have hm14 := (hb1.cell (p := ⟨ab, _, none⟩) habr).trans hc14
      have hown1 : OwnR w1 w.heap.size _ st := ownsRow_below hown hb1
      have hab1 : ab < w1.heap.size := Nat.lt_of_lt_of_le habr hb1.size
      clear hc0 hc1 hc2 hc3 hc4 hc5 hc6 hc7 hc8 hc9 hc10 hc11 hc12 hc13 hc14 hb1 hown hbr habr
      go_wp2_with fail
      go_at_call 32
      refine (CT.out _).mono ?_
      rintro e w2 ⟨rfl, hb2⟩
      have hbr2 : Below w.heap.size w w2 := hbr1.trans (hb2.mono hbr1.size)
      have hn0 := (hb2.cell (p := ⟨ab, _, none⟩) hab1).trans hm0
      have hn1 := (hb2.cell (p := ⟨ab, _, none⟩) hab1).trans hm1
      have hn2 := (hb2.cell (p := ⟨ab, _, none⟩) hab1).trans hm2
      have hn3 := (hb2.cell (p := ⟨ab, _, none⟩) hab1).trans hm3
      have hn4 := (hb2.cell (p := ⟨ab, _, none⟩) hab1).trans hm4
      have hn5 := (hb2.cell (p := ⟨ab, _, none⟩) hab1).trans hm5
      have hn6 := (hb2.cell (p := ⟨ab, _, none⟩) hab1).trans hm6
      have hn7 := (hb2.cell (p := ⟨ab, _, none⟩) hab1).trans hm7
      have hn8 := (hb2.cell (p := ⟨ab, _, none⟩) hab1).trans hm8
      have hn9 := (hb2.cell (p := ⟨ab, _, none⟩) hab1).trans hm9
      have hn10 := (hb2.cell (p := ⟨ab, _, none⟩) hab1).trans hm10
      have hn11 := (hb2.cell (p := ⟨ab, _, none⟩) hab1).trans hm11
      have hn12 := (hb2.cell (p := ⟨ab, _, none⟩) hab1).trans hm12
      have hn13 := (hb2.cell (p := ⟨ab, _, none⟩) hab1).trans hm13
      have hn14 := (hb2.cell (p := ⟨ab, _, none⟩) hab1).trans hm14
      have hown2 : OwnR w2 w.heap.size _ st := ownsRow_below hown1 hb2
      have hab2 : ab < w2.heap.size := Nat.lt_of_lt_of_le hab1 hb2.size
      clear hm0 hm1 hm2 hm3 hm4 hm5 hm6 hm7 hm8 hm9 hm10 hm11 hm12 hm13 hm14 hb2 hown1 hbr1 hab1
      cases m
      · go_wp2
        go_ret2
        exact ⟨Or.inr ⟨hno'.out (j + 1) (by rw [hput'.out]; exact step_bad hmH.out), rfl⟩, hbr2⟩
      have htk := takes_le hmH.out
      rw [hkH.out] at htk
      obtain ⟨k, rfl⟩ : ∃ k : Nat, kI = k := ⟨kI.toNat, by omega⟩
      have hk16 : k ≤ 16 := by omega
      by_cases hlk : st.length < k
      · have hlk2 : (k : Int) > (st.length : Int) := by omega
        have hlk3 : (st.length : Int) < (k : Int) := by omega
        rcases hown2.form (n := st.length) rfl with ⟨h0, rfl⟩ | ⟨g, cap', rfl, hBg, hgw, hle, hrow⟩
        · have hk0 : 0 < k := by omega
          have hk0i : (0 : Int) < (k : Int) := by omega
          go_wp2
          go_ret2
          exact ⟨Or.inr ⟨hno'.out (j + 1) (by rw [hput'.out]; exact takes_no hmH.out (by rw [hkH.out]; omega)), rfl⟩, hbr2⟩
        · clear hrow
          go_wp2
          go_ret2
          exact ⟨Or.inr ⟨hno'.out (j + 1) (by rw [hput'.out]; exact takes_no hmH.out (by rw [hkH.out]; omega)), rfl⟩, hbr2⟩
      obtain ⟨s, t, rfl, ht⟩ : ∃ s t, st = s ++ t ∧ t.length = k := ⟨st.take (st.length - k), st.drop (st.length - k), (List.take_append_drop _ _).symm, by rw [List.length_drop]; omega⟩
      obtain ⟨p, hp⟩ : ∃ p, s.length = p := ⟨_, rfl⟩
      have hpk : (s ++ t).length = p + k := by rw [List.length_append]; omega
      rw [hpk] at hlk hst
      obtain ⟨r, ok, hstep, hrd, hPA⟩ := rpart_step n hmH.out s t (j : Int) (by omega) (by omega) (by rw [hkH.out, ht]) hdep.out
      have hstepH := Lib.hid hstep
      have hrdH := Lib.hid hrd
      have hPAH : Hid (∀ (w0 : World) (A0 : Option Addr) (cap0 : Nat), RdB w0 w0.heap.size A0 3 (t.map PL.cs) → Calls Tryd.prog 33 #[.agg #[.int .i64 n.kind, .int .i64 n.v.t, .int .i64 n.v.n, .string n.v.s, .bool n.v.b, .int .i64 n.v.c, .int .i64 n.r, .int .i64 n.c, .int .i64 n.t, .int .i64 n.l, .int .i64 n.b, .int .i64 n.q, .int .i64 n.op, .string n.name, .int .i64 n.args], .slice A0 k cap0] w0 fun e w' => e = .returned (.tuple #[.agg #[.int .i64 r.depth, .int .i64 r.binds, .bool r.many], .bool ok]) ∧ Below w0.heap.size w0 w') := Lib.hid (by have h := hPA; unfold PartAt at h; rw [ht] at h; exact h)
      clear hstep hrd hPA hk16 hmH CN CT
      by_cases hk0 : k = 0
      · subst hk0
        obtain rfl : t = [] := List.eq_nil_of_length_eq_zero ht
        have hpk : (s ++ []).length = p := by rw [List.append_nil]; exact hp
        have hPAH : Hid (∀ (w0 : World) (A0 : Option Addr) (cap0 : Nat), RdB w0 w0.heap.size A0 3 ([].map PL.cs) → Calls Tryd.prog 33 #[.agg #[.int .i64 n.kind, .int .i64 n.v.t, .int .i64 n.v.n, .string n.v.s, .bool n.v.b, .int .i64 n.v.c, .int .i64 n.r, .int .i64 n.c, .int .i64 n.t, .int .i64 n.l, .int .i64 n.b, .int .i64 n.q, .int .i64 n.op, .string n.name, .int .i64 n.args], .slice A0 0 cap0] w0 fun e w' => e = .returned (.tuple #[.agg #[.int .i64 r.depth, .int .i64 r.binds, .bool r.many], .bool ok]) ∧ Below w0.heap.size w0 w') := hPAH
        rcases hown2.form hpk with ⟨h0, rfl⟩ | ⟨g, cap', rfl, hBg, hgw, hle, hrow⟩
        · subst h0
          have hownN : w2.ownsRow w.heap.size 66 3 (.slice none 0 0) 0 (plRow (s ++ [])) := by
            have h := hown2
            unfold OwnR at h
            rwa [hpk] at h
          as_aux_lemma =>
            have hw0 : IntKind.i64.wrap 0 = 0 := rfl
            have habP : ab ≠ w2.heap.size := by omega
            go_upto_region 9 with fail
            go_cut [8, 9] from 11 to 62 (fun x y wc => ∃ P, x = .pointer (some ⟨P, 0, none⟩) ∧ y = .bool ok ∧ w2.heap.size ≤ P ∧ wc.heap[P]? = some (.cells #[.int .i64 r.depth, .int .i64 r.binds, .bool r.many] 66 (0, 0)) ∧ Below w2.heap.size w2 wc)
            case first =>
              refine wp_region_noPanic ?_
              refine wp_region_held_drew (S := fun w' => w'.cell? ⟨ab, ao + j * 15, none⟩ = some (.int .i64 n.kind) ∧ w'.cell? ⟨ab, ao + j * 15 + 1, none⟩ = some (.int .i64 n.v.t) ∧ w'.cell? ⟨ab, ao + j * 15 + 2, none⟩ = some (.int .i64 n.v.n) ∧ w'.cell? ⟨ab, ao + j * 15 + 3, none⟩ = some (.string n.v.s) ∧ w'.cell? ⟨ab, ao + j * 15 + 4, none⟩ = some (.bool n.v.b) ∧ w'.cell? ⟨ab, ao + j * 15 + 5, none⟩ = some (.int .i64 n.v.c) ∧ w'.cell? ⟨ab, ao + j * 15 + 6, none⟩ = some (.int .i64 n.r) ∧ w'.cell? ⟨ab, ao + j * 15 + 7, none⟩ = some (.int .i64 n.c) ∧ w'.cell? ⟨ab, ao + j * 15 + 8, none⟩ = some (.int .i64 n.t) ∧ w'.cell? ⟨ab, ao + j * 15 + 9, none⟩ = some (.int .i64 n.l) ∧ w'.cell? ⟨ab, ao + j * 15 + 10, none⟩ = some (.int .i64 n.b) ∧ w'.cell? ⟨ab, ao + j * 15 + 11, none⟩ = some (.int .i64 n.q) ∧ w'.cell? ⟨ab, ao + j * 15 + 12, none⟩ = some (.int .i64 n.op) ∧ w'.cell? ⟨ab, ao + j * 15 + 13, none⟩ = some (.string n.name) ∧ w'.cell? ⟨ab, ao + j * 15 + 14, none⟩ = some (.int .i64 n.args)) (by kernel_rfl) ⟨hn0, hn1, hn2, hn3, hn4, hn5, hn6, hn7, hn8, hn9, hn10, hn11, hn12, hn13, hn14⟩ (fun hHeld => ?_)
              refine wpAnyH_take (i := 0) (oi := ⟨_, _, _, _, _, _⟩) (v := ?v1) rfl (by kernel_rfl) (by kernel_rfl) (by kernel_rfl) (fun _ _ _ h => h) (Or.inl ⟨by rfl, ?hy1⟩) hHeld ?rest1
              case hy1 => (intro w2 hSw; (try dsimp only at hSw); go_split_ands; go_simp; first | done | with_reducible rfl)
              try simp only [Act.put, List.setIfInBounds_toArray, List.set_cons_zero, List.set_cons_succ]
              refine wpAnyH_take (i := 1) (oi := ⟨_, _, _, _, _, _⟩) (v := ?v2) rfl (by kernel_rfl) (by kernel_rfl) (by kernel_rfl) (fun _ _ _ h => h) (Or.inl ⟨by rfl, ?hy2⟩) hHeld ?rest2
              case hy2 => (intro w2 hSw; (try dsimp only at hSw); go_split_ands; go_simp; first | done | with_reducible rfl)
              try simp only [Act.put, List.setIfInBounds_toArray, List.set_cons_zero, List.set_cons_succ]
              refine wpAnyH_take (i := 2) (oi := ⟨_, _, _, _, _, _⟩) (v := ?v3) rfl (by kernel_rfl) (by kernel_rfl) (by kernel_rfl) (fun _ _ _ h => h) (Or.inl ⟨by rfl, ?hy3⟩) hHeld ?rest3
              case hy3 => (intro w2 hSw; (try dsimp only at hSw); go_split_ands; go_simp; first | done | with_reducible rfl)
              try simp only [Act.put, List.setIfInBounds_toArray, List.set_cons_zero, List.set_cons_succ]
              refine wpAnyH_take (i := 3) (oi := ⟨_, _, _, _, _, _⟩) (v := ?v4) rfl (by kernel_rfl) (by kernel_rfl) (by kernel_rfl) (fun _ _ _ h => h) (Or.inl ⟨by rfl, ?hy4⟩) hHeld ?rest4
              case hy4 => (intro w2 hSw; (try dsimp only at hSw); go_split_ands; go_simp; first | done | with_reducible rfl)
              try simp only [Act.put, List.setIfInBounds_toArray, List.set_cons_zero, List.set_cons_succ]
              refine wpAnyH_take (i := 4) (oi := ⟨_, _, _, _, _, _⟩) (v := ?v5) rfl (by kernel_rfl) (by kernel_rfl) (by kernel_rfl) (fun _ _ _ h => h) (Or.inl ⟨by rfl, ?hy5⟩) hHeld ?rest5
              case hy5 => (intro w2 hSw; (try dsimp only at hSw); go_split_ands; go_simp; first | done | with_reducible rfl)
              try simp only [Act.put, List.setIfInBounds_toArray, List.set_cons_zero, List.set_cons_succ]
              refine wpAnyH_take (i := 5) (oi := ⟨_, _, _, _, _, _⟩) (v := ?v6) rfl (by kernel_rfl) (by kernel_rfl) (by kernel_rfl) (fun _ _ _ h => h) (Or.inl ⟨by rfl, ?hy6⟩) hHeld ?rest6
              case hy6 => (intro w2 hSw; (try dsimp only at hSw); go_split_ands; go_simp; first | done | with_reducible rfl)
              try simp only [Act.put, List.setIfInBounds_toArray, List.set_cons_zero, List.set_cons_succ]
              refine wpAnyH_take (i := 6) (oi := ⟨_, _, _, _, _, _⟩) (v := ?v7) rfl (by kernel_rfl) (by kernel_rfl) (by kernel_rfl) (fun _ _ _ h => h) (Or.inl ⟨by rfl, ?hy7⟩) hHeld ?rest7
              case hy7 => (intro w2 hSw; (try dsimp only at hSw); go_split_ands; go_simp; first | done | with_reducible rfl)
              try simp only [Act.put, List.setIfInBounds_toArray, List.set_cons_zero, List.set_cons_succ]
              refine wpAnyH_take (i := 7) (oi := ⟨_, _, _, _, _, _⟩) (v := ?v8) rfl (by kernel_rfl) (by kernel_rfl) (by kernel_rfl) (fun _ _ _ h => h) (Or.inl ⟨by rfl, ?hy8⟩) hHeld ?rest8
              case hy8 => (intro w2 hSw; (try dsimp only at hSw); go_split_ands; go_simp; first | done | with_reducible rfl)
              try simp only [Act.put, List.setIfInBounds_toArray, List.set_cons_zero, List.set_cons_succ]
              refine wpAnyH_take (i := 8) (oi := ⟨_, _, _, _, _, _⟩) (v := ?v9) rfl (by kernel_rfl) (by kernel_rfl) (by kernel_rfl) (fun _ _ _ h => h) (Or.inl ⟨by rfl, ?hy9⟩) hHeld ?rest9
              case hy9 => (intro w2 hSw; (try dsimp only at hSw); go_split_ands; go_simp; first | done | with_reducible rfl)
              try simp only [Act.put, List.setIfInBounds_toArray, List.set_cons_zero, List.set_cons_succ]
              refine wpAnyH_take (i := 9) (oi := ⟨_, _, _, _, _, _⟩) (v := ?v10) rfl (by kernel_rfl) (by kernel_rfl) (by kernel_rfl) (fun _ _ _ h => h) (Or.inl ⟨by rfl, ?hy10⟩) hHeld ?rest10
              case hy10 => (intro w2 hSw; (try dsimp only at hSw); go_split_ands; go_simp; first | done | with_reducible rfl)
              try simp only [Act.put, List.setIfInBounds_toArray, List.set_cons_zero, List.set_cons_succ]
              refine wpAnyH_ready (rs := [10, 14]) (by kernel_rfl) (by simp) ?_
              refine AllReadyH.cons (o := ⟨_, _, _, _, _, _⟩) rfl (fun K hK => ?_) (AllReadyH.cons (o := ⟨_, _, _, _, _, _⟩) rfl (fun K hK => ?_) AllReadyH.nil)
              · go_split_ands
                go_simp
                refine (hPAH.out _ (none) (0) (rd_up (rd_nil w2 none) ((Below.refl _ _).drew))).mono ?_
                rintro e w3 ⟨rfl, hb0⟩
                have hb : Below w2.heap.size w2 w3 := ((Below.refl w2.heap.size w2).drew).trans hb0
                refine hK.out _ _ ⟨(hb.cell (p := ⟨ab, _, none⟩) hab2).trans hn0, (hb.cell (p := ⟨ab, _, none⟩) hab2).trans hn1, (hb.cell (p := ⟨ab, _, none⟩) hab2).trans hn2, (hb.cell (p := ⟨ab, _, none⟩) hab2).trans hn3, (hb.cell (p := ⟨ab, _, none⟩) hab2).trans hn4, (hb.cell (p := ⟨ab, _, none⟩) hab2).trans hn5, (hb.cell (p := ⟨ab, _, none⟩) hab2).trans hn6, (hb.cell (p := ⟨ab, _, none⟩) hab2).trans hn7, (hb.cell (p := ⟨ab, _, none⟩) hab2).trans hn8, (hb.cell (p := ⟨ab, _, none⟩) hab2).trans hn9, (hb.cell (p := ⟨ab, _, none⟩) hab2).trans hn10, (hb.cell (p := ⟨ab, _, none⟩) hab2).trans hn11, (hb.cell (p := ⟨ab, _, none⟩) hab2).trans hn12, (hb.cell (p := ⟨ab, _, none⟩) hab2).trans hn13, (hb.cell (p := ⟨ab, _, none⟩) hab2).trans hn14⟩ (fun hHeld => ?_)
                clear hK K hb0
                try simp only [Act.put, List.setIfInBounds_toArray, List.set_cons_zero, List.set_cons_succ]
                refine wpAnyH_take (i := 11) (oi := ⟨_, _, _, _, _, _⟩) (v := ?v14) rfl (by kernel_rfl) (by kernel_rfl) (by kernel_rfl) (fun _ _ _ h => h) (Or.inl ⟨by rfl, ?hy14⟩) hHeld ?rest14
                case hy14 => (intro w2 hSw; (try dsimp only at hSw); go_split_ands; go_simp; first | done | with_reducible rfl)
                try simp only [Act.put, List.setIfInBounds_toArray, List.set_cons_zero, List.set_cons_succ]
                refine wpAnyH_take (i := 12) (oi := ⟨_, _, _, _, _, _⟩) (v := ?v15) rfl (by kernel_rfl) (by kernel_rfl) (by kernel_rfl) (fun _ _ _ h => h) (Or.inl ⟨by rfl, ?hy15⟩) hHeld ?rest15
                case hy15 => (intro w2 hSw; (try dsimp only at hSw); go_split_ands; go_simp; first | done | with_reducible rfl)
                try simp only [Act.put, List.setIfInBounds_toArray, List.set_cons_zero, List.set_cons_succ]
                refine wpAnyH_take (i := 13) (oi := ⟨_, _, _, _, _, _⟩) (v := ?v16) rfl (by kernel_rfl) (by kernel_rfl) (by kernel_rfl) (fun _ _ _ h => h) (Or.inl ⟨by rfl, ?hy16⟩) hHeld ?rest16
                case hy16 => (intro w2 hSw; (try dsimp only at hSw); go_split_ands; go_simp; first | done | with_reducible rfl)
                try simp only [Act.put, List.setIfInBounds_toArray, List.set_cons_zero, List.set_cons_succ]
                refine wpAnyH_ready (rs := [14]) (by kernel_rfl) (by simp) ?_
                refine AllReadyH.cons (o := ⟨_, _, _, _, _, _⟩) rfl (fun K hK => ?_) AllReadyH.nil
                go_split_ands
                go_simp
                refine hK.out _ _ ⟨al_cell2 (Nat.lt_of_lt_of_le hab2 hb.size) ((hb.cell (p := ⟨ab, _, none⟩) hab2).trans hn0), al_cell2 (Nat.lt_of_lt_of_le hab2 hb.size) ((hb.cell (p := ⟨ab, _, none⟩) hab2).trans hn1), al_cell2 (Nat.lt_of_lt_of_le hab2 hb.size) ((hb.cell (p := ⟨ab, _, none⟩) hab2).trans hn2), al_cell2 (Nat.lt_of_lt_of_le hab2 hb.size) ((hb.cell (p := ⟨ab, _, none⟩) hab2).trans hn3), al_cell2 (Nat.lt_of_lt_of_le hab2 hb.size) ((hb.cell (p := ⟨ab, _, none⟩) hab2).trans hn4), al_cell2 (Nat.lt_of_lt_of_le hab2 hb.size) ((hb.cell (p := ⟨ab, _, none⟩) hab2).trans hn5), al_cell2 (Nat.lt_of_lt_of_le hab2 hb.size) ((hb.cell (p := ⟨ab, _, none⟩) hab2).trans hn6), al_cell2 (Nat.lt_of_lt_of_le hab2 hb.size) ((hb.cell (p := ⟨ab, _, none⟩) hab2).trans hn7), al_cell2 (Nat.lt_of_lt_of_le hab2 hb.size) ((hb.cell (p := ⟨ab, _, none⟩) hab2).trans hn8), al_cell2 (Nat.lt_of_lt_of_le hab2 hb.size) ((hb.cell (p := ⟨ab, _, none⟩) hab2).trans hn9), al_cell2 (Nat.lt_of_lt_of_le hab2 hb.size) ((hb.cell (p := ⟨ab, _, none⟩) hab2).trans hn10), al_cell2 (Nat.lt_of_lt_of_le hab2 hb.size) ((hb.cell (p := ⟨ab, _, none⟩) hab2).trans hn11), al_cell2 (Nat.lt_of_lt_of_le hab2 hb.size) ((hb.cell (p := ⟨ab, _, none⟩) hab2).trans hn12), al_cell2 (Nat.lt_of_lt_of_le hab2 hb.size) ((hb.cell (p := ⟨ab, _, none⟩) hab2).trans hn13), al_cell2 (Nat.lt_of_lt_of_le hab2 hb.size) ((hb.cell (p := ⟨ab, _, none⟩) hab2).trans hn14)⟩ (fun hHeld => ?_)
                clear hK K
                try simp only [Act.put, List.setIfInBounds_toArray, List.set_cons_zero, List.set_cons_succ]
                refine wpAnyH_ready (rs := [15]) (by kernel_rfl) (by simp) ?_
                refine AllReadyH.cons (o := ⟨_, _, _, _, _, _⟩) rfl (fun K hK => ?_) AllReadyH.nil
                go_split_ands
                go_simp
                refine hK.out _ _ ⟨al_cell2 (Nat.lt_of_lt_of_le hab2 hb.size) ((hb.cell (p := ⟨ab, _, none⟩) hab2).trans hn0), al_cell2 (Nat.lt_of_lt_of_le hab2 hb.size) ((hb.cell (p := ⟨ab, _, none⟩) hab2).trans hn1), al_cell2 (Nat.lt_of_lt_of_le hab2 hb.size) ((hb.cell (p := ⟨ab, _, none⟩) hab2).trans hn2), al_cell2 (Nat.lt_of_lt_of_le hab2 hb.size) ((hb.cell (p := ⟨ab, _, none⟩) hab2).trans hn3), al_cell2 (Nat.lt_of_lt_of_le hab2 hb.size) ((hb.cell (p := ⟨ab, _, none⟩) hab2).trans hn4), al_cell2 (Nat.lt_of_lt_of_le hab2 hb.size) ((hb.cell (p := ⟨ab, _, none⟩) hab2).trans hn5), al_cell2 (Nat.lt_of_lt_of_le hab2 hb.size) ((hb.cell (p := ⟨ab, _, none⟩) hab2).trans hn6), al_cell2 (Nat.lt_of_lt_of_le hab2 hb.size) ((hb.cell (p := ⟨ab, _, none⟩) hab2).trans hn7), al_cell2 (Nat.lt_of_lt_of_le hab2 hb.size) ((hb.cell (p := ⟨ab, _, none⟩) hab2).trans hn8), al_cell2 (Nat.lt_of_lt_of_le hab2 hb.size) ((hb.cell (p := ⟨ab, _, none⟩) hab2).trans hn9), al_cell2 (Nat.lt_of_lt_of_le hab2 hb.size) ((hb.cell (p := ⟨ab, _, none⟩) hab2).trans hn10), al_cell2 (Nat.lt_of_lt_of_le hab2 hb.size) ((hb.cell (p := ⟨ab, _, none⟩) hab2).trans hn11), al_cell2 (Nat.lt_of_lt_of_le hab2 hb.size) ((hb.cell (p := ⟨ab, _, none⟩) hab2).trans hn12), al_cell2 (Nat.lt_of_lt_of_le hab2 hb.size) ((hb.cell (p := ⟨ab, _, none⟩) hab2).trans hn13), al_cell2 (Nat.lt_of_lt_of_le hab2 hb.size) ((hb.cell (p := ⟨ab, _, none⟩) hab2).trans hn14)⟩ (fun hHeld => ?_)
                clear hK K
                try simp only [Act.put, List.setIfInBounds_toArray, List.set_cons_zero, List.set_cons_succ]
                refine wpAnyH_take (i := 16) (oi := ⟨_, _, _, _, _, _⟩) (v := ?v17) rfl (by kernel_rfl) (by kernel_rfl) (by kernel_rfl) (fun _ _ _ h => h) (Or.inl ⟨by rfl, ?hy17⟩) hHeld ?rest17
                case hy17 => (intro w2 hSw; (try dsimp only at hSw); go_split_ands; go_simp; first | done | with_reducible rfl)
                try simp only [Act.put, List.setIfInBounds_toArray, List.set_cons_zero, List.set_cons_succ]
                refine wpAnyH_done (by kernel_rfl) ?_ _
                refine NoPanic.normal ?_
                go_wp2
                go_meet
                case rel => exact ⟨_, rfl, rfl, hb.size, heap_alloc_new _ _, hb.alloc hb.size _⟩
              · go_split_ands
                go_simp
                refine hK.out _ _ ⟨al_cell2 hab2 hn0, al_cell2 hab2 hn1, al_cell2 hab2 hn2, al_cell2 hab2 hn3, al_cell2 hab2 hn4, al_cell2 hab2 hn5, al_cell2 hab2 hn6, al_cell2 hab2 hn7, al_cell2 hab2 hn8, al_cell2 hab2 hn9, al_cell2 hab2 hn10, al_cell2 hab2 hn11, al_cell2 hab2 hn12, al_cell2 hab2 hn13, al_cell2 hab2 hn14⟩ (fun hHeld => ?_)
                clear hK K
                try simp only [Act.put, List.setIfInBounds_toArray, List.set_cons_zero, List.set_cons_succ]
                refine wpAnyH_ready (rs := [10]) (by kernel_rfl) (by simp) ?_
                refine AllReadyH.cons (o := ⟨_, _, _, _, _, _⟩) rfl (fun K hK => ?_) AllReadyH.nil
                go_split_ands
                go_simp
                refine (hPAH.out _ (none) (0) (rd_up (rd_nil w2 none) (((Below.refl _ _).alloc (Nat.le_refl _) _).drew))).mono ?_
                rintro e w3 ⟨rfl, hb0⟩
                have hb1 : Below (w2.heap.size + 1) (w2.alloc (.cells #[.int .i64 0, .int .i64 0, .bool false] 66)) w3 := ((Below.refl _ _).drew).trans (hb0.mono (by simp))
                have hb : Below w2.heap.size w2 w3 := ((Below.refl _ _).alloc (Nat.le_refl _) (.cells #[.int .i64 0, .int .i64 0, .bool false] 66)).trans (hb1.mono (by omega))
                have hbP := (hb1.block w2.heap.size (by omega)).trans (heap_alloc_new w2 (.cells #[.int .i64 0, .int .i64 0, .bool false] 66))
                have hzc0 := blk_cell hbP 0
                have hzc1 := blk_cell hbP 1
                have hzc2 := blk_cell hbP 2
                have hzf0 := blk_frozen hbP 0
                have hzf1 := blk_frozen hbP 1
                have hzf2 := blk_frozen hbP 2
                refine hK.out _ _ ⟨(hb.cell (p := ⟨ab, _, none⟩) hab2).trans hn0, (hb.cell (p := ⟨ab, _, none⟩) hab2).trans hn1, (hb.cell (p := ⟨ab, _, none⟩) hab2).trans hn2, (hb.cell (p := ⟨ab, _, none⟩) hab2).trans hn3, (hb.cell (p := ⟨ab, _, none⟩) hab2).trans hn4, (hb.cell (p := ⟨ab, _, none⟩) hab2).trans hn5, (hb.cell (p := ⟨ab, _, none⟩) hab2).trans hn6, (hb.cell (p := ⟨ab, _, none⟩) hab2).trans hn7, (hb.cell (p := ⟨ab, _, none⟩) hab2).trans hn8, (hb.cell (p := ⟨ab, _, none⟩) hab2).trans hn9, (hb.cell (p := ⟨ab, _, none⟩) hab2).trans hn10, (hb.cell (p := ⟨ab, _, none⟩) hab2).trans hn11, (hb.cell (p := ⟨ab, _, none⟩) hab2).trans hn12, (hb.cell (p := ⟨ab, _, none⟩) hab2).trans hn13, (hb.cell (p := ⟨ab, _, none⟩) hab2).trans hn14⟩ (fun hHeld => ?_)
                clear hK K hb0 hb1
                try simp only [Act.put, List.setIfInBounds_toArray, List.set_cons_zero, List.set_cons_succ]
                refine wpAnyH_take (i := 11) (oi := ⟨_, _, _, _, _, _⟩) (v := ?v18) rfl (by kernel_rfl) (by kernel_rfl) (by kernel_rfl) (fun _ _ _ h => h) (Or.inl ⟨by rfl, ?hy18⟩) hHeld ?rest18
                case hy18 => (intro w2 hSw; (try dsimp only at hSw); go_split_ands; go_simp; first | done | with_reducible rfl)
                try simp only [Act.put, List.setIfInBounds_toArray, List.set_cons_zero, List.set_cons_succ]
                refine wpAnyH_take (i := 12) (oi := ⟨_, _, _, _, _, _⟩) (v := ?v19) rfl (by kernel_rfl) (by kernel_rfl) (by kernel_rfl) (fun _ _ _ h => h) (Or.inl ⟨by rfl, ?hy19⟩) hHeld ?rest19
                case hy19 => (intro w2 hSw; (try dsimp only at hSw); go_split_ands; go_simp; first | done | with_reducible rfl)
                try simp only [Act.put, List.setIfInBounds_toArray, List.set_cons_zero, List.set_cons_succ]
                refine wpAnyH_take (i := 13) (oi := ⟨_, _, _, _, _, _⟩) (v := ?v20) rfl (by kernel_rfl) (by kernel_rfl) (by kernel_rfl) (fun _ _ _ h => h) (Or.inl ⟨by rfl, ?hy20⟩) hHeld ?rest20
                case hy20 => (intro w2 hSw; (try dsimp only at hSw); go_split_ands; go_simp; first | done | with_reducible rfl)
                try simp only [Act.put, List.setIfInBounds_toArray, List.set_cons_zero, List.set_cons_succ]
                refine wpAnyH_ready (rs := [15]) (by kernel_rfl) (by simp) ?_
                refine AllReadyH.cons (o := ⟨_, _, _, _, _, _⟩) rfl (fun K hK => ?_) AllReadyH.nil
                go_split_ands
                go_simp
                refine hK.out _ _ ⟨sc3_cell habP ((hb.cell (p := ⟨ab, _, none⟩) hab2).trans hn0), sc3_cell habP ((hb.cell (p := ⟨ab, _, none⟩) hab2).trans hn1), sc3_cell habP ((hb.cell (p := ⟨ab, _, none⟩) hab2).trans hn2), sc3_cell habP ((hb.cell (p := ⟨ab, _, none⟩) hab2).trans hn3), sc3_cell habP ((hb.cell (p := ⟨ab, _, none⟩) hab2).trans hn4), sc3_cell habP ((hb.cell (p := ⟨ab, _, none⟩) hab2).trans hn5), sc3_cell habP ((hb.cell (p := ⟨ab, _, none⟩) hab2).trans hn6), sc3_cell habP ((hb.cell (p := ⟨ab, _, none⟩) hab2).trans hn7), sc3_cell habP ((hb.cell (p := ⟨ab, _, none⟩) hab2).trans hn8), sc3_cell habP ((hb.cell (p := ⟨ab, _, none⟩) hab2).trans hn9), sc3_cell habP ((hb.cell (p := ⟨ab, _, none⟩) hab2).trans hn10), sc3_cell habP ((hb.cell (p := ⟨ab, _, none⟩) hab2).trans hn11), sc3_cell habP ((hb.cell (p := ⟨ab, _, none⟩) hab2).trans hn12), sc3_cell habP ((hb.cell (p := ⟨ab, _, none⟩) hab2).trans hn13), sc3_cell habP ((hb.cell (p := ⟨ab, _, none⟩) hab2).trans hn14)⟩ (fun hHeld => ?_)
                clear hK K
                try simp only [Act.put, List.setIfInBounds_toArray, List.set_cons_zero, List.set_cons_succ]
                refine wpAnyH_take (i := 16) (oi := ⟨_, _, _, _, _, _⟩) (v := ?v21) rfl (by kernel_rfl) (by kernel_rfl) (by kernel_rfl) (fun _ _ _ h => h) (Or.inl ⟨by rfl, ?hy21⟩) hHeld ?rest21
                case hy21 => (intro w2 hSw; (try dsimp only at hSw); go_split_ands; go_simp; first | done | with_reducible rfl)
                try simp only [Act.put, List.setIfInBounds_toArray, List.set_cons_zero, List.set_cons_succ]
                refine wpAnyH_done (by kernel_rfl) ?_ _
                refine NoPanic.normal ?_
                go_wp2
                go_meet
                case rel => exact ⟨w2.heap.size, rfl, rfl, Nat.le_refl _, row_set3 hbP, ((hb.setCell (p := ⟨w2.heap.size, 0, none⟩) (Nat.le_refl _) _).setCell (p := ⟨w2.heap.size, 1, none⟩) (Nat.le_refl _) _).setCell (p := ⟨w2.heap.size, 2, none⟩) (Nat.le_refl _) _⟩
            case rest =>
              obtain ⟨P, rfl, rfl, hPz, hP, hbc⟩ := hcut
              have hbc2 : Below w.heap.size w wc := hbr2.trans (hbc.mono hbr2.size)
              have hzc := hbc.size
              have hownc := ownsRow_below hownN hbc
              have hcut9 := ownsRow_cut (ys := plRow s) (zs := plRow []) (m := 0) hownc (plRow_app s []) (by rw [plRow_len, hp]) (by omega) (fun _ => rfl)
              have hbc2z := hbc2.size
              cases ok
              · clear hcut9 hownc
                go_wp2
                go_ret2
                exact ⟨Or.inr ⟨hno'.out (j + 1) (by rw [hput'.out]; exact hstepH.out), rfl⟩, hbc2⟩
              clear hownc
              have hq0 : wc.cell? ⟨P, 0, none⟩ = some (.int .i64 r.depth) := blk_cell hP 0
              have hq1 : wc.cell? ⟨P, 1, none⟩ = some (.int .i64 r.binds) := blk_cell hP 1
              have hq2 : wc.cell? ⟨P, 2, none⟩ = some (.bool r.many) := blk_cell hP 2
              go_upto_region 14 with fail
              have hown5 : wc.ownsRow w.heap.size 66 3 (.slice none 0 0) 0 (plRow s) := hcut9
              obtain ⟨w5, rfl⟩ : ∃ w5, w5 = wc := ⟨_, rfl⟩
              have hbr5 := hbc2
              trace_state
              have hvg := heap_alloc_new w5 (.cells #[.int .i64 r.depth, .int .i64 r.binds, .bool r.many] 66)
              have hB6 : Below w.heap.size w (w5.alloc (.cells #[.int .i64 r.depth, .int .i64 r.binds, .bool r.many] 66)) := hbr5.alloc (by have := hbr5.size; omega) _
              have hown6 := World.ownsRow.alloc hown5 (.cells #[.int .i64 r.depth, .int .i64 r.binds, .bool r.many] 66)
              go_wp2_with (at_builtin; go_loud (refine wpList_append_own_at _ rfl _ _ 62 rfl w.heap.size 66 i0 (.agg #[.int .i64 0, .int .i64 0, .bool false]) 3 24 Tryd.underlying62 hi hz0 hz1 hz2 rfl (by decide) _ _ _ rfl hown6 ⟨w5.heap.size, 0, none⟩ 1 1 r.cs rfl rfl (World.news_of_block hvg) (by simp [PL.cs, Value.oneCell']) (by unfold maxLen; omega) (by omega) (by have := hbr5.size; simp; omega) ?_); intro v7 w7 hown7 hgrow7 _ _)
              clear hvg
              have hbr7 : Below w.heap.size w w7 := hB6.grown hgrow7 (by have := hbr5.size; simp; omega) (fun q hq => (World.ownsRow.lt hown6 q hq).1)
              clear hgrow7
              go_roundw
              case rel => exact ⟨j + 1, s ++ [r], by omega, by go_num, Lib.hid (by rw [hput'.out, hstepH.out]; rfl), Lib.hid ((hdep.out.left.mono (by omega)).app hrdH.out.1 (by have := hrdH.out.2; omega)), by simp; omega, by unfold OwnR; rw [plRow_app, plRow_one, List.length_append, hp]; exact hown7, hbr7⟩
              case measure => simp [intOf]; omega
        have hownN : w2.ownsRow w.heap.size 66 3 (.slice (some ⟨g, 0, none⟩) p cap') p (plRow (s ++ [])) := by
          have h := hown2
          unfold OwnR at h
          rwa [hpk] at h
        have hgab : g ≠ ab := by omega
        clear hrow
        by_cases hcp : cap' = p
        · obtain rfl : p = cap' := hcp.symm
          as_aux_lemma =>
            have hwp : IntKind.i64.wrap (p : Int) = (p : Int) := IntWalk.i64_in _ (by omega)
            have hi0 : (0 : Int) ≤ (p : Int) := by omega
            have habP : ab ≠ w2.heap.size := by omega
            go_upto_region 9 with fail
            go_cut [8, 9] from 11 to 62 (fun x y wc => ∃ P, x = .pointer (some ⟨P, 0, none⟩) ∧ y = .bool ok ∧ w2.heap.size ≤ P ∧ wc.heap[P]? = some (.cells #[.int .i64 r.depth, .int .i64 r.binds, .bool r.many] 66 (0, 0)) ∧ Below w2.heap.size w2 wc)
            case first =>
              refine wp_region_noPanic ?_
              refine wp_region_held_drew (S := fun w' => w'.cell? ⟨ab, ao + j * 15, none⟩ = some (.int .i64 n.kind) ∧ w'.cell? ⟨ab, ao + j * 15 + 1, none⟩ = some (.int .i64 n.v.t) ∧ w'.cell? ⟨ab, ao + j * 15 + 2, none⟩ = some (.int .i64 n.v.n) ∧ w'.cell? ⟨ab, ao + j * 15 + 3, none⟩ = some (.string n.v.s) ∧ w'.cell? ⟨ab, ao + j * 15 + 4, none⟩ = some (.bool n.v.b) ∧ w'.cell? ⟨ab, ao + j * 15 + 5, none⟩ = some (.int .i64 n.v.c) ∧ w'.cell? ⟨ab, ao + j * 15 + 6, none⟩ = some (.int .i64 n.r) ∧ w'.cell? ⟨ab, ao + j * 15 + 7, none⟩ = some (.int .i64 n.c) ∧ w'.cell? ⟨ab, ao + j * 15 + 8, none⟩ = some (.int .i64 n.t) ∧ w'.cell? ⟨ab, ao + j * 15 + 9, none⟩ = some (.int .i64 n.l) ∧ w'.cell? ⟨ab, ao + j * 15 + 10, none⟩ = some (.int .i64 n.b) ∧ w'.cell? ⟨ab, ao + j * 15 + 11, none⟩ = some (.int .i64 n.q) ∧ w'.cell? ⟨ab, ao + j * 15 + 12, none⟩ = some (.int .i64 n.op) ∧ w'.cell? ⟨ab, ao + j * 15 + 13, none⟩ = some (.string n.name) ∧ w'.cell? ⟨ab, ao + j * 15 + 14, none⟩ = some (.int .i64 n.args)) (by kernel_rfl) ⟨hn0, hn1, hn2, hn3, hn4, hn5, hn6, hn7, hn8, hn9, hn10, hn11, hn12, hn13, hn14⟩ (fun hHeld => ?_)
              refine wpAnyH_take (i := 0) (oi := ⟨_, _, _, _, _, _⟩) (v := ?v22) rfl (by kernel_rfl) (by kernel_rfl) (by kernel_rfl) (fun _ _ _ h => h) (Or.inl ⟨by rfl, ?hy22⟩) hHeld ?rest22
              case hy22 => (intro w2 hSw; (try dsimp only at hSw); go_split_ands; go_simp; first | done | with_reducible rfl)
              try simp only [Act.put, List.setIfInBounds_toArray, List.set_cons_zero, List.set_cons_succ]
              refine wpAnyH_take (i := 1) (oi := ⟨_, _, _, _, _, _⟩) (v := ?v23) rfl (by kernel_rfl) (by kernel_rfl) (by kernel_rfl) (fun _ _ _ h => h) (Or.inl ⟨by rfl, ?hy23⟩) hHeld ?rest23
              case hy23 => (intro w2 hSw; (try dsimp only at hSw); go_split_ands; go_simp; first | done | with_reducible rfl)
              try simp only [Act.put, List.setIfInBounds_toArray, List.set_cons_zero, List.set_cons_succ]
              refine wpAnyH_take (i := 2) (oi := ⟨_, _, _, _, _, _⟩) (v := ?v24) rfl (by kernel_rfl) (by kernel_rfl) (by kernel_rfl) (fun _ _ _ h => h) (Or.inl ⟨by rfl, ?hy24⟩) hHeld ?rest24
              case hy24 => (intro w2 hSw; (try dsimp only at hSw); go_split_ands; go_simp; first | done | with_reducible rfl)
              try simp only [Act.put, List.setIfInBounds_toArray, List.set_cons_zero, List.set_cons_succ]
              refine wpAnyH_take (i := 3) (oi := ⟨_, _, _, _, _, _⟩) (v := ?v25) rfl (by kernel_rfl) (by kernel_rfl) (by kernel_rfl) (fun _ _ _ h => h) (Or.inl ⟨by rfl, ?hy25⟩) hHeld ?rest25
              case hy25 => (intro w2 hSw; (try dsimp only at hSw); go_split_ands; go_simp; first | done | with_reducible rfl)
              try simp only [Act.put, List.setIfInBounds_toArray, List.set_cons_zero, List.set_cons_succ]
              refine wpAnyH_take (i := 4) (oi := ⟨_, _, _, _, _, _⟩) (v := ?v26) rfl (by kernel_rfl) (by kernel_rfl) (by kernel_rfl) (fun _ _ _ h => h) (Or.inl ⟨by rfl, ?hy26⟩) hHeld ?rest26
              case hy26 => (intro w2 hSw; (try dsimp only at hSw); go_split_ands; go_simp; first | done | with_reducible rfl)
              try simp only [Act.put, List.setIfInBounds_toArray, List.set_cons_zero, List.set_cons_succ]
              refine wpAnyH_take (i := 5) (oi := ⟨_, _, _, _, _, _⟩) (v := ?v27) rfl (by kernel_rfl) (by kernel_rfl) (by kernel_rfl) (fun _ _ _ h => h) (Or.inl ⟨by rfl, ?hy27⟩) hHeld ?rest27
              case hy27 => (intro w2 hSw; (try dsimp only at hSw); go_split_ands; go_simp; first | done | with_reducible rfl)
              try simp only [Act.put, List.setIfInBounds_toArray, List.set_cons_zero, List.set_cons_succ]
              refine wpAnyH_take (i := 6) (oi := ⟨_, _, _, _, _, _⟩) (v := ?v28) rfl (by kernel_rfl) (by kernel_rfl) (by kernel_rfl) (fun _ _ _ h => h) (Or.inl ⟨by rfl, ?hy28⟩) hHeld ?rest28
              case hy28 => (intro w2 hSw; (try dsimp only at hSw); go_split_ands; go_simp; first | done | with_reducible rfl)
              try simp only [Act.put, List.setIfInBounds_toArray, List.set_cons_zero, List.set_cons_succ]
              refine wpAnyH_take (i := 7) (oi := ⟨_, _, _, _, _, _⟩) (v := ?v29) rfl (by kernel_rfl) (by kernel_rfl) (by kernel_rfl) (fun _ _ _ h => h) (Or.inl ⟨by rfl, ?hy29⟩) hHeld ?rest29
              case hy29 => (intro w2 hSw; (try dsimp only at hSw); go_split_ands; go_simp; first | done | with_reducible rfl)
              try simp only [Act.put, List.setIfInBounds_toArray, List.set_cons_zero, List.set_cons_succ]
              refine wpAnyH_take (i := 8) (oi := ⟨_, _, _, _, _, _⟩) (v := ?v30) rfl (by kernel_rfl) (by kernel_rfl) (by kernel_rfl) (fun _ _ _ h => h) (Or.inl ⟨by rfl, ?hy30⟩) hHeld ?rest30
              case hy30 => (intro w2 hSw; (try dsimp only at hSw); go_split_ands; go_simp; first | done | with_reducible rfl)
              try simp only [Act.put, List.setIfInBounds_toArray, List.set_cons_zero, List.set_cons_succ]
              refine wpAnyH_take (i := 9) (oi := ⟨_, _, _, _, _, _⟩) (v := ?v31) rfl (by kernel_rfl) (by kernel_rfl) (by kernel_rfl) (fun _ _ _ h => h) (Or.inl ⟨by rfl, ?hy31⟩) hHeld ?rest31
              case hy31 => (intro w2 hSw; (try dsimp only at hSw); go_split_ands; go_simp; first | done | with_reducible rfl)
              try simp only [Act.put, List.setIfInBounds_toArray, List.set_cons_zero, List.set_cons_succ]
              refine wpAnyH_ready (rs := [10, 14]) (by kernel_rfl) (by simp) ?_
              refine AllReadyH.cons (o := ⟨_, _, _, _, _, _⟩) rfl (fun K hK => ?_) (AllReadyH.cons (o := ⟨_, _, _, _, _, _⟩) rfl (fun K hK => ?_) AllReadyH.nil)
              · go_split_ands
                go_simp
                refine (hPAH.out _ (some ⟨g, 0, none⟩) (0) (rd_up (rd_nil w2 _) ((Below.refl _ _).drew))).mono ?_
                rintro e w3 ⟨rfl, hb0⟩
                have hb : Below w2.heap.size w2 w3 := ((Below.refl w2.heap.size w2).drew).trans hb0
                refine hK.out _ _ ⟨(hb.cell (p := ⟨ab, _, none⟩) hab2).trans hn0, (hb.cell (p := ⟨ab, _, none⟩) hab2).trans hn1, (hb.cell (p := ⟨ab, _, none⟩) hab2).trans hn2, (hb.cell (p := ⟨ab, _, none⟩) hab2).trans hn3, (hb.cell (p := ⟨ab, _, none⟩) hab2).trans hn4, (hb.cell (p := ⟨ab, _, none⟩) hab2).trans hn5, (hb.cell (p := ⟨ab, _, none⟩) hab2).trans hn6, (hb.cell (p := ⟨ab, _, none⟩) hab2).trans hn7, (hb.cell (p := ⟨ab, _, none⟩) hab2).trans hn8, (hb.cell (p := ⟨ab, _, none⟩) hab2).trans hn9, (hb.cell (p := ⟨ab, _, none⟩) hab2).trans hn10, (hb.cell (p := ⟨ab, _, none⟩) hab2).trans hn11, (hb.cell (p := ⟨ab, _, none⟩) hab2).trans hn12, (hb.cell (p := ⟨ab, _, none⟩) hab2).trans hn13, (hb.cell (p := ⟨ab, _, none⟩) hab2).trans hn14⟩ (fun hHeld => ?_)
                clear hK K hb0
                try simp only [Act.put, List.setIfInBounds_toArray, List.set_cons_zero, List.set_cons_succ]
                refine wpAnyH_take (i := 11) (oi := ⟨_, _, _, _, _, _⟩) (v := ?v35) rfl (by kernel_rfl) (by kernel_rfl) (by kernel_rfl) (fun _ _ _ h => h) (Or.inl ⟨by rfl, ?hy35⟩) hHeld ?rest35
                case hy35 => (intro w2 hSw; (try dsimp only at hSw); go_split_ands; go_simp; first | done | with_reducible rfl)
                try simp only [Act.put, List.setIfInBounds_toArray, List.set_cons_zero, List.set_cons_succ]
                refine wpAnyH_take (i := 12) (oi := ⟨_, _, _, _, _, _⟩) (v := ?v36) rfl (by kernel_rfl) (by kernel_rfl) (by kernel_rfl) (fun _ _ _ h => h) (Or.inl ⟨by rfl, ?hy36⟩) hHeld ?rest36
                case hy36 => (intro w2 hSw; (try dsimp only at hSw); go_split_ands; go_simp; first | done | with_reducible rfl)
                try simp only [Act.put, List.setIfInBounds_toArray, List.set_cons_zero, List.set_cons_succ]
                refine wpAnyH_take (i := 13) (oi := ⟨_, _, _, _, _, _⟩) (v := ?v37) rfl (by kernel_rfl) (by kernel_rfl) (by kernel_rfl) (fun _ _ _ h => h) (Or.inl ⟨by rfl, ?hy37⟩) hHeld ?rest37
                case hy37 => (intro w2 hSw; (try dsimp only at hSw); go_split_ands; go_simp; first | done | with_reducible rfl)
                try simp only [Act.put, List.setIfInBounds_toArray, List.set_cons_zero, List.set_cons_succ]
                refine wpAnyH_ready (rs := [14]) (by kernel_rfl) (by simp) ?_
                refine AllReadyH.cons (o := ⟨_, _, _, _, _, _⟩) rfl (fun K hK => ?_) AllReadyH.nil
                go_split_ands
                go_simp
                refine hK.out _ _ ⟨al_cell2 (Nat.lt_of_lt_of_le hab2 hb.size) ((hb.cell (p := ⟨ab, _, none⟩) hab2).trans hn0), al_cell2 (Nat.lt_of_lt_of_le hab2 hb.size) ((hb.cell (p := ⟨ab, _, none⟩) hab2).trans hn1), al_cell2 (Nat.lt_of_lt_of_le hab2 hb.size) ((hb.cell (p := ⟨ab, _, none⟩) hab2).trans hn2), al_cell2 (Nat.lt_of_lt_of_le hab2 hb.size) ((hb.cell (p := ⟨ab, _, none⟩) hab2).trans hn3), al_cell2 (Nat.lt_of_lt_of_le hab2 hb.size) ((hb.cell (p := ⟨ab, _, none⟩) hab2).trans hn4), al_cell2 (Nat.lt_of_lt_of_le hab2 hb.size) ((hb.cell (p := ⟨ab, _, none⟩) hab2).trans hn5), al_cell2 (Nat.lt_of_lt_of_le hab2 hb.size) ((hb.cell (p := ⟨ab, _, none⟩) hab2).trans hn6), al_cell2 (Nat.lt_of_lt_of_le hab2 hb.size) ((hb.cell (p := ⟨ab, _, none⟩) hab2).trans hn7), al_cell2 (Nat.lt_of_lt_of_le hab2 hb.size) ((hb.cell (p := ⟨ab, _, none⟩) hab2).trans hn8), al_cell2 (Nat.lt_of_lt_of_le hab2 hb.size) ((hb.cell (p := ⟨ab, _, none⟩) hab2).trans hn9), al_cell2 (Nat.lt_of_lt_of_le hab2 hb.size) ((hb.cell (p := ⟨ab, _, none⟩) hab2).trans hn10), al_cell2 (Nat.lt_of_lt_of_le hab2 hb.size) ((hb.cell (p := ⟨ab, _, none⟩) hab2).trans hn11), al_cell2 (Nat.lt_of_lt_of_le hab2 hb.size) ((hb.cell (p := ⟨ab, _, none⟩) hab2).trans hn12), al_cell2 (Nat.lt_of_lt_of_le hab2 hb.size) ((hb.cell (p := ⟨ab, _, none⟩) hab2).trans hn13), al_cell2 (Nat.lt_of_lt_of_le hab2 hb.size) ((hb.cell (p := ⟨ab, _, none⟩) hab2).trans hn14)⟩ (fun hHeld => ?_)
                clear hK K
                try simp only [Act.put, List.setIfInBounds_toArray, List.set_cons_zero, List.set_cons_succ]
                refine wpAnyH_ready (rs := [15]) (by kernel_rfl) (by simp) ?_
                refine AllReadyH.cons (o := ⟨_, _, _, _, _, _⟩) rfl (fun K hK => ?_) AllReadyH.nil
                go_split_ands
                go_simp
                refine hK.out _ _ ⟨al_cell2 (Nat.lt_of_lt_of_le hab2 hb.size) ((hb.cell (p := ⟨ab, _, none⟩) hab2).trans hn0), al_cell2 (Nat.lt_of_lt_of_le hab2 hb.size) ((hb.cell (p := ⟨ab, _, none⟩) hab2).trans hn1), al_cell2 (Nat.lt_of_lt_of_le hab2 hb.size) ((hb.cell (p := ⟨ab, _, none⟩) hab2).trans hn2), al_cell2 (Nat.lt_of_lt_of_le hab2 hb.size) ((hb.cell (p := ⟨ab, _, none⟩) hab2).trans hn3), al_cell2 (Nat.lt_of_lt_of_le hab2 hb.size) ((hb.cell (p := ⟨ab, _, none⟩) hab2).trans hn4), al_cell2 (Nat.lt_of_lt_of_le hab2 hb.size) ((hb.cell (p := ⟨ab, _, none⟩) hab2).trans hn5), al_cell2 (Nat.lt_of_lt_of_le hab2 hb.size) ((hb.cell (p := ⟨ab, _, none⟩) hab2).trans hn6), al_cell2 (Nat.lt_of_lt_of_le hab2 hb.size) ((hb.cell (p := ⟨ab, _, none⟩) hab2).trans hn7), al_cell2 (Nat.lt_of_lt_of_le hab2 hb.size) ((hb.cell (p := ⟨ab, _, none⟩) hab2).trans hn8), al_cell2 (Nat.lt_of_lt_of_le hab2 hb.size) ((hb.cell (p := ⟨ab, _, none⟩) hab2).trans hn9), al_cell2 (Nat.lt_of_lt_of_le hab2 hb.size) ((hb.cell (p := ⟨ab, _, none⟩) hab2).trans hn10), al_cell2 (Nat.lt_of_lt_of_le hab2 hb.size) ((hb.cell (p := ⟨ab, _, none⟩) hab2).trans hn11), al_cell2 (Nat.lt_of_lt_of_le hab2 hb.size) ((hb.cell (p := ⟨ab, _, none⟩) hab2).trans hn12), al_cell2 (Nat.lt_of_lt_of_le hab2 hb.size) ((hb.cell (p := ⟨ab, _, none⟩) hab2).trans hn13), al_cell2 (Nat.lt_of_lt_of_le hab2 hb.size) ((hb.cell (p := ⟨ab, _, none⟩) hab2).trans hn14)⟩ (fun hHeld => ?_)
                clear hK K
                try simp only [Act.put, List.setIfInBounds_toArray, List.set_cons_zero, List.set_cons_succ]
                refine wpAnyH_take (i := 16) (oi := ⟨_, _, _, _, _, _⟩) (v := ?v38) rfl (by kernel_rfl) (by kernel_rfl) (by kernel_rfl) (fun _ _ _ h => h) (Or.inl ⟨by rfl, ?hy38⟩) hHeld ?rest38
                case hy38 => (intro w2 hSw; (try dsimp only at hSw); go_split_ands; go_simp; first | done | with_reducible rfl)
                try simp only [Act.put, List.setIfInBounds_toArray, List.set_cons_zero, List.set_cons_succ]
                refine wpAnyH_done (by kernel_rfl) ?_ _
                refine NoPanic.normal ?_
                go_wp2
                go_meet
                case rel => exact ⟨_, rfl, rfl, hb.size, heap_alloc_new _ _, hb.alloc hb.size _⟩
              · go_split_ands
                go_simp
                refine hK.out _ _ ⟨al_cell2 hab2 hn0, al_cell2 hab2 hn1, al_cell2 hab2 hn2, al_cell2 hab2 hn3, al_cell2 hab2 hn4, al_cell2 hab2 hn5, al_cell2 hab2 hn6, al_cell2 hab2 hn7, al_cell2 hab2 hn8, al_cell2 hab2 hn9, al_cell2 hab2 hn10, al_cell2 hab2 hn11, al_cell2 hab2 hn12, al_cell2 hab2 hn13, al_cell2 hab2 hn14⟩ (fun hHeld => ?_)
                clear hK K
                try simp only [Act.put, List.setIfInBounds_toArray, List.set_cons_zero, List.set_cons_succ]
                refine wpAnyH_ready (rs := [10]) (by kernel_rfl) (by simp) ?_
                refine AllReadyH.cons (o := ⟨_, _, _, _, _, _⟩) rfl (fun K hK => ?_) AllReadyH.nil
                go_split_ands
                go_simp
                refine (hPAH.out _ (some ⟨g, 0, none⟩) (0) (rd_up (rd_nil w2 _) (((Below.refl _ _).alloc (Nat.le_refl _) _).drew))).mono ?_
                rintro e w3 ⟨rfl, hb0⟩
                have hb1 : Below (w2.heap.size + 1) (w2.alloc (.cells #[.int .i64 0, .int .i64 0, .bool false] 66)) w3 := ((Below.refl _ _).drew).trans (hb0.mono (by simp))
                have hb : Below w2.heap.size w2 w3 := ((Below.refl _ _).alloc (Nat.le_refl _) (.cells #[.int .i64 0, .int .i64 0, .bool false] 66)).trans (hb1.mono (by omega))
                have hbP := (hb1.block w2.heap.size (by omega)).trans (heap_alloc_new w2 (.cells #[.int .i64 0, .int .i64 0, .bool false] 66))
                have hzc0 := blk_cell hbP 0
                have hzc1 := blk_cell hbP 1
                have hzc2 := blk_cell hbP 2
                have hzf0 := blk_frozen hbP 0
                have hzf1 := blk_frozen hbP 1
                have hzf2 := blk_frozen hbP 2
                refine hK.out _ _ ⟨(hb.cell (p := ⟨ab, _, none⟩) hab2).trans hn0, (hb.cell (p := ⟨ab, _, none⟩) hab2).trans hn1, (hb.cell (p := ⟨ab, _, none⟩) hab2).trans hn2, (hb.cell (p := ⟨ab, _, none⟩) hab2).trans hn3, (hb.cell (p := ⟨ab, _, none⟩) hab2).trans hn4, (hb.cell (p := ⟨ab, _, none⟩) hab2).trans hn5, (hb.cell (p := ⟨ab, _, none⟩) hab2).trans hn6, (hb.cell (p := ⟨ab, _, none⟩) hab2).trans hn7, (hb.cell (p := ⟨ab, _, none⟩) hab2).trans hn8, (hb.cell (p := ⟨ab, _, none⟩) hab2).trans hn9, (hb.cell (p := ⟨ab, _, none⟩) hab2).trans hn10, (hb.cell (p := ⟨ab, _, none⟩) hab2).trans hn11, (hb.cell (p := ⟨ab, _, none⟩) hab2).trans hn12, (hb.cell (p := ⟨ab, _, none⟩) hab2).trans hn13, (hb.cell (p := ⟨ab, _, none⟩) hab2).trans hn14⟩ (fun hHeld => ?_)
                clear hK K hb0 hb1
                try simp only [Act.put, List.setIfInBounds_toArray, List.set_cons_zero, List.set_cons_succ]
                refine wpAnyH_take (i := 11) (oi := ⟨_, _, _, _, _, _⟩) (v := ?v39) rfl (by kernel_rfl) (by kernel_rfl) (by kernel_rfl) (fun _ _ _ h => h) (Or.inl ⟨by rfl, ?hy39⟩) hHeld ?rest39
                case hy39 => (intro w2 hSw; (try dsimp only at hSw); go_split_ands; go_simp; first | done | with_reducible rfl)
                try simp only [Act.put, List.setIfInBounds_toArray, List.set_cons_zero, List.set_cons_succ]
                refine wpAnyH_take (i := 12) (oi := ⟨_, _, _, _, _, _⟩) (v := ?v40) rfl (by kernel_rfl) (by kernel_rfl) (by kernel_rfl) (fun _ _ _ h => h) (Or.inl ⟨by rfl, ?hy40⟩) hHeld ?rest40
                case hy40 => (intro w2 hSw; (try dsimp only at hSw); go_split_ands; go_simp; first | done | with_reducible rfl)
                try simp only [Act.put, List.setIfInBounds_toArray, List.set_cons_zero, List.set_cons_succ]
                refine wpAnyH_take (i := 13) (oi := ⟨_, _, _, _, _, _⟩) (v := ?v41) rfl (by kernel_rfl) (by kernel_rfl) (by kernel_rfl) (fun _ _ _ h => h) (Or.inl ⟨by rfl, ?hy41⟩) hHeld ?rest41
                case hy41 => (intro w2 hSw; (try dsimp only at hSw); go_split_ands; go_simp; first | done | with_reducible rfl)
                try simp only [Act.put, List.setIfInBounds_toArray, List.set_cons_zero, List.set_cons_succ]
                refine wpAnyH_ready (rs := [15]) (by kernel_rfl) (by simp) ?_
                refine AllReadyH.cons (o := ⟨_, _, _, _, _, _⟩) rfl (fun K hK => ?_) AllReadyH.nil
                go_split_ands
                go_simp
                refine hK.out _ _ ⟨sc3_cell habP ((hb.cell (p := ⟨ab, _, none⟩) hab2).trans hn0), sc3_cell habP ((hb.cell (p := ⟨ab, _, none⟩) hab2).trans hn1), sc3_cell habP ((hb.cell (p := ⟨ab, _, none⟩) hab2).trans hn2), sc3_cell habP ((hb.cell (p := ⟨ab, _, none⟩) hab2).trans hn3), sc3_cell habP ((hb.cell (p := ⟨ab, _, none⟩) hab2).trans hn4), sc3_cell habP ((hb.cell (p := ⟨ab, _, none⟩) hab2).trans hn5), sc3_cell habP ((hb.cell (p := ⟨ab, _, none⟩) hab2).trans hn6), sc3_cell habP ((hb.cell (p := ⟨ab, _, none⟩) hab2).trans hn7), sc3_cell habP ((hb.cell (p := ⟨ab, _, none⟩) hab2).trans hn8), sc3_cell habP ((hb.cell (p := ⟨ab, _, none⟩) hab2).trans hn9), sc3_cell habP ((hb.cell (p := ⟨ab, _, none⟩) hab2).trans hn10), sc3_cell habP ((hb.cell (p := ⟨ab, _, none⟩) hab2).trans hn11), sc3_cell habP ((hb.cell (p := ⟨ab, _, none⟩) hab2).trans hn12), sc3_cell habP ((hb.cell (p := ⟨ab, _, none⟩) hab2).trans hn13), sc3_cell habP ((hb.cell (p := ⟨ab, _, none⟩) hab2).trans hn14)⟩ (fun hHeld => ?_)
                clear hK K
                try simp only [Act.put, List.setIfInBounds_toArray, List.set_cons_zero, List.set_cons_succ]
                refine wpAnyH_take (i := 16) (oi := ⟨_, _, _, _, _, _⟩) (v := ?v42) rfl (by kernel_rfl) (by kernel_rfl) (by kernel_rfl) (fun _ _ _ h => h) (Or.inl ⟨by rfl, ?hy42⟩) hHeld ?rest42
                case hy42 => (intro w2 hSw; (try dsimp only at hSw); go_split_ands; go_simp; first | done | with_reducible rfl)
                try simp only [Act.put, List.setIfInBounds_toArray, List.set_cons_zero, List.set_cons_succ]
                refine wpAnyH_done (by kernel_rfl) ?_ _
                refine NoPanic.normal ?_
                go_wp2
                go_meet
                case rel => exact ⟨w2.heap.size, rfl, rfl, Nat.le_refl _, row_set3 hbP, ((hb.setCell (p := ⟨w2.heap.size, 0, none⟩) (Nat.le_refl _) _).setCell (p := ⟨w2.heap.size, 1, none⟩) (Nat.le_refl _) _).setCell (p := ⟨w2.heap.size, 2, none⟩) (Nat.le_refl _) _⟩
            case rest =>
              obtain ⟨P, rfl, rfl, hPz, hP, hbc⟩ := hcut
              have hbc2 : Below w.heap.size w wc := hbr2.trans (hbc.mono hbr2.size)
              have hzc := hbc.size
              have hownc := ownsRow_below hownN hbc
              have hcut9 := ownsRow_cut (ys := plRow s) (zs := plRow []) (m := p) hownc (plRow_app s []) (by rw [plRow_len, hp]) (by omega) (fun e => by cases e)
              have hbc2z := hbc2.size
              cases ok
              · clear hcut9 hownc
                go_wp2
                go_ret2
                exact ⟨Or.inr ⟨hno'.out (j + 1) (by rw [hput'.out]; exact hstepH.out), rfl⟩, hbc2⟩
              clear hownc
              have hownn := World.ownsRow_nil wc w.heap.size 66 3
              go_upto_region 14 with (at_builtin; go_loud (refine wpList_append_own_at _ rfl _ _ 62 rfl w.heap.size 66 i0 (.agg #[.int .i64 0, .int .i64 0, .bool false]) 3 24 Tryd.underlying62 hi hz0 hz1 hz2 rfl (by decide) _ _ _ rfl hownn ⟨g, 0, none⟩ p p (plRow s) rfl (by rw [plRow_len, hp]) (own_news hcut9) (fun u hu => plRow_one' hu) (by unfold maxLen; omega) (by omega) (by omega) ?_); intro v5 w5 hown5 hgrow5 _ _; have hP5 := (hgrow5.block P (Array.getElem?_eq_some_iff.1 hP).1 (by intro e; cases e)).trans hP; have hq0 : w5.cell? ⟨P, 0, none⟩ = some (.int .i64 r.depth) := blk_cell hP5 0; have hq1 : w5.cell? ⟨P, 1, none⟩ = some (.int .i64 r.binds) := blk_cell hP5 1; have hq2 : w5.cell? ⟨P, 2, none⟩ = some (.bool r.many) := blk_cell hP5 2)
              have hbr5 : Below w.heap.size w w5 := hbc2.grown hgrow5 (by omega) (fun q hq => by cases hq)
              rw [Nat.zero_add, List.nil_append] at hown5
              clear hgrow5 hownn
              trace_state
              have hvg := heap_alloc_new w5 (.cells #[.int .i64 r.depth, .int .i64 r.binds, .bool r.many] 66)
              have hB6 : Below w.heap.size w (w5.alloc (.cells #[.int .i64 r.depth, .int .i64 r.binds, .bool r.many] 66)) := hbr5.alloc (by have := hbr5.size; omega) _
              have hown6 := World.ownsRow.alloc hown5 (.cells #[.int .i64 r.depth, .int .i64 r.binds, .bool r.many] 66)
              go_wp2_with (at_builtin; go_loud (refine wpList_append_own_at _ rfl _ _ 62 rfl w.heap.size 66 i0 (.agg #[.int .i64 0, .int .i64 0, .bool false]) 3 24 Tryd.underlying62 hi hz0 hz1 hz2 rfl (by decide) _ _ _ rfl hown6 ⟨w5.heap.size, 0, none⟩ 1 1 r.cs rfl rfl (World.news_of_block hvg) (by simp [PL.cs, Value.oneCell']) (by unfold maxLen; omega) (by omega) (by have := hbr5.size; simp; omega) ?_); intro v7 w7 hown7 hgrow7 _ _)
              clear hvg
              have hbr7 : Below w.heap.size w w7 := hB6.grown hgrow7 (by have := hbr5.size; simp; omega) (fun q hq => (World.ownsRow.lt hown6 q hq).1)
              clear hgrow7
              go_roundw
              case rel => exact ⟨j + 1, s ++ [r], by omega, by go_num, Lib.hid (by rw [hput'.out, hstepH.out]; rfl), Lib.hid ((hdep.out.left.mono (by omega)).app hrdH.out.1 (by have := hrdH.out.2; omega)), by simp; omega, by unfold OwnR; rw [plRow_app, plRow_one, List.length_append, hp]; exact hown7, hbr7⟩
              case measure => simp [intOf]; omega
        · have hpc : p ≤ cap' := by omega
          as_aux_lemma =>
            have hwp : IntKind.i64.wrap (p : Int) = (p : Int) := IntWalk.i64_in _ (by omega)
            have hi0 : (0 : Int) ≤ (p : Int) := by omega
            have habP : ab ≠ w2.heap.size := by omega
            go_upto_region 9 with fail
            go_cut [8, 9] from 11 to 62 (fun x y wc => ∃ P, x = .pointer (some ⟨P, 0, none⟩) ∧ y = .bool ok ∧ w2.heap.size ≤ P ∧ wc.heap[P]? = some (.cells #[.int .i64 r.depth, .int .i64 r.binds, .bool r.many] 66 (0, 0)) ∧ Below w2.heap.size w2 wc)
            case first =>
              refine wp_region_noPanic ?_
              refine wp_region_held_drew (S := fun w' => w'.cell? ⟨ab, ao + j * 15, none⟩ = some (.int .i64 n.kind) ∧ w'.cell? ⟨ab, ao + j * 15 + 1, none⟩ = some (.int .i64 n.v.t) ∧ w'.cell? ⟨ab, ao + j * 15 + 2, none⟩ = some (.int .i64 n.v.n) ∧ w'.cell? ⟨ab, ao + j * 15 + 3, none⟩ = some (.string n.v.s) ∧ w'.cell? ⟨ab, ao + j * 15 + 4, none⟩ = some (.bool n.v.b) ∧ w'.cell? ⟨ab, ao + j * 15 + 5, none⟩ = some (.int .i64 n.v.c) ∧ w'.cell? ⟨ab, ao + j * 15 + 6, none⟩ = some (.int .i64 n.r) ∧ w'.cell? ⟨ab, ao + j * 15 + 7, none⟩ = some (.int .i64 n.c) ∧ w'.cell? ⟨ab, ao + j * 15 + 8, none⟩ = some (.int .i64 n.t) ∧ w'.cell? ⟨ab, ao + j * 15 + 9, none⟩ = some (.int .i64 n.l) ∧ w'.cell? ⟨ab, ao + j * 15 + 10, none⟩ = some (.int .i64 n.b) ∧ w'.cell? ⟨ab, ao + j * 15 + 11, none⟩ = some (.int .i64 n.q) ∧ w'.cell? ⟨ab, ao + j * 15 + 12, none⟩ = some (.int .i64 n.op) ∧ w'.cell? ⟨ab, ao + j * 15 + 13, none⟩ = some (.string n.name) ∧ w'.cell? ⟨ab, ao + j * 15 + 14, none⟩ = some (.int .i64 n.args)) (by kernel_rfl) ⟨hn0, hn1, hn2, hn3, hn4, hn5, hn6, hn7, hn8, hn9, hn10, hn11, hn12, hn13, hn14⟩ (fun hHeld => ?_)
              refine wpAnyH_take (i := 0) (oi := ⟨_, _, _, _, _, _⟩) (v := ?v43) rfl (by kernel_rfl) (by kernel_rfl) (by kernel_rfl) (fun _ _ _ h => h) (Or.inl ⟨by rfl, ?hy43⟩) hHeld ?rest43
              case hy43 => (intro w2 hSw; (try dsimp only at hSw); go_split_ands; go_simp; first | done | with_reducible rfl)
              try simp only [Act.put, List.setIfInBounds_toArray, List.set_cons_zero, List.set_cons_succ]
              refine wpAnyH_take (i := 1) (oi := ⟨_, _, _, _, _, _⟩) (v := ?v44) rfl (by kernel_rfl) (by kernel_rfl) (by kernel_rfl) (fun _ _ _ h => h) (Or.inl ⟨by rfl, ?hy44⟩) hHeld ?rest44
              case hy44 => (intro w2 hSw; (try dsimp only at hSw); go_split_ands; go_simp; first | done | with_reducible rfl)
              try simp only [Act.put, List.setIfInBounds_toArray, List.set_cons_zero, List.set_cons_succ]
              refine wpAnyH_take (i := 2) (oi := ⟨_, _, _, _, _, _⟩) (v := ?v45) rfl (by kernel_rfl) (by kernel_rfl) (by kernel_rfl) (fun _ _ _ h => h) (Or.inl ⟨by rfl, ?hy45⟩) hHeld ?rest45
              case hy45 => (intro w2 hSw; (try dsimp only at hSw); go_split_ands; go_simp; first | done | with_reducible rfl)
              try simp only [Act.put, List.setIfInBounds_toArray, List.set_cons_zero, List.set_cons_succ]
              refine wpAnyH_take (i := 3) (oi := ⟨_, _, _, _, _, _⟩) (v := ?v46) rfl (by kernel_rfl) (by kernel_rfl) (by kernel_rfl) (fun _ _ _ h => h) (Or.inl ⟨by rfl, ?hy46⟩) hHeld ?rest46
              case hy46 => (intro w2 hSw; (try dsimp only at hSw); go_split_ands; go_simp; first | done | with_reducible rfl)
              try simp only [Act.put, List.setIfInBounds_toArray, List.set_cons_zero, List.set_cons_succ]
              refine wpAnyH_take (i := 4) (oi := ⟨_, _, _, _, _, _⟩) (v := ?v47) rfl (by kernel_rfl) (by kernel_rfl) (by kernel_rfl) (fun _ _ _ h => h) (Or.inl ⟨by rfl, ?hy47⟩) hHeld ?rest47
              case hy47 => (intro w2 hSw; (try dsimp only at hSw); go_split_ands; go_simp; first | done | with_reducible rfl)
              try simp only [Act.put, List.setIfInBounds_toArray, List.set_cons_zero, List.set_cons_succ]
              refine wpAnyH_take (i := 5) (oi := ⟨_, _, _, _, _, _⟩) (v := ?v48) rfl (by kernel_rfl) (by kernel_rfl) (by kernel_rfl) (fun _ _ _ h => h) (Or.inl ⟨by rfl, ?hy48⟩) hHeld ?rest48
              case hy48 => (intro w2 hSw; (try dsimp only at hSw); go_split_ands; go_simp; first | done | with_reducible rfl)
              try simp only [Act.put, List.setIfInBounds_toArray, List.set_cons_zero, List.set_cons_succ]
              refine wpAnyH_take (i := 6) (oi := ⟨_, _, _, _, _, _⟩) (v := ?v49) rfl (by kernel_rfl) (by kernel_rfl) (by kernel_rfl) (fun _ _ _ h => h) (Or.inl ⟨by rfl, ?hy49⟩) hHeld ?rest49
              case hy49 => (intro w2 hSw; (try dsimp only at hSw); go_split_ands; go_simp; first | done | with_reducible rfl)
              try simp only [Act.put, List.setIfInBounds_toArray, List.set_cons_zero, List.set_cons_succ]
              refine wpAnyH_take (i := 7) (oi := ⟨_, _, _, _, _, _⟩) (v := ?v50) rfl (by kernel_rfl) (by kernel_rfl) (by kernel_rfl) (fun _ _ _ h => h) (Or.inl ⟨by rfl, ?hy50⟩) hHeld ?rest50
              case hy50 => (intro w2 hSw; (try dsimp only at hSw); go_split_ands; go_simp; first | done | with_reducible rfl)
              try simp only [Act.put, List.setIfInBounds_toArray, List.set_cons_zero, List.set_cons_succ]
              refine wpAnyH_take (i := 8) (oi := ⟨_, _, _, _, _, _⟩) (v := ?v51) rfl (by kernel_rfl) (by kernel_rfl) (by kernel_rfl) (fun _ _ _ h => h) (Or.inl ⟨by rfl, ?hy51⟩) hHeld ?rest51
              case hy51 => (intro w2 hSw; (try dsimp only at hSw); go_split_ands; go_simp; first | done | with_reducible rfl)
              try simp only [Act.put, List.setIfInBounds_toArray, List.set_cons_zero, List.set_cons_succ]
              refine wpAnyH_take (i := 9) (oi := ⟨_, _, _, _, _, _⟩) (v := ?v52) rfl (by kernel_rfl) (by kernel_rfl) (by kernel_rfl) (fun _ _ _ h => h) (Or.inl ⟨by rfl, ?hy52⟩) hHeld ?rest52
              case hy52 => (intro w2 hSw; (try dsimp only at hSw); go_split_ands; go_simp; first | done | with_reducible rfl)
              try simp only [Act.put, List.setIfInBounds_toArray, List.set_cons_zero, List.set_cons_succ]
              refine wpAnyH_ready (rs := [10, 14]) (by kernel_rfl) (by simp) ?_
              refine AllReadyH.cons (o := ⟨_, _, _, _, _, _⟩) rfl (fun K hK => ?_) (AllReadyH.cons (o := ⟨_, _, _, _, _, _⟩) rfl (fun K hK => ?_) AllReadyH.nil)
              · go_split_ands
                go_simp
                refine (hPAH.out _ (some ⟨g, p * 3, none⟩) (cap' - p) (rd_up (rd_nil w2 _) ((Below.refl _ _).drew))).mono ?_
                rintro e w3 ⟨rfl, hb0⟩
                have hb : Below w2.heap.size w2 w3 := ((Below.refl w2.heap.size w2).drew).trans hb0
                refine hK.out _ _ ⟨(hb.cell (p := ⟨ab, _, none⟩) hab2).trans hn0, (hb.cell (p := ⟨ab, _, none⟩) hab2).trans hn1, (hb.cell (p := ⟨ab, _, none⟩) hab2).trans hn2, (hb.cell (p := ⟨ab, _, none⟩) hab2).trans hn3, (hb.cell (p := ⟨ab, _, none⟩) hab2).trans hn4, (hb.cell (p := ⟨ab, _, none⟩) hab2).trans hn5, (hb.cell (p := ⟨ab, _, none⟩) hab2).trans hn6, (hb.cell (p := ⟨ab, _, none⟩) hab2).trans hn7, (hb.cell (p := ⟨ab, _, none⟩) hab2).trans hn8, (hb.cell (p := ⟨ab, _, none⟩) hab2).trans hn9, (hb.cell (p := ⟨ab, _, none⟩) hab2).trans hn10, (hb.cell (p := ⟨ab, _, none⟩) hab2).trans hn11, (hb.cell (p := ⟨ab, _, none⟩) hab2).trans hn12, (hb.cell (p := ⟨ab, _, none⟩) hab2).trans hn13, (hb.cell (p := ⟨ab, _, none⟩) hab2).trans hn14⟩ (fun hHeld => ?_)
                clear hK K hb0
                try simp only [Act.put, List.setIfInBounds_toArray, List.set_cons_zero, List.set_cons_succ]
                refine wpAnyH_take (i := 11) (oi := ⟨_, _, _, _, _, _⟩) (v := ?v56) rfl (by kernel_rfl) (by kernel_rfl) (by kernel_rfl) (fun _ _ _ h => h) (Or.inl ⟨by rfl, ?hy56⟩) hHeld ?rest56
                case hy56 => (intro w2 hSw; (try dsimp only at hSw); go_split_ands; go_simp; first | done | with_reducible rfl)
                try simp only [Act.put, List.setIfInBounds_toArray, List.set_cons_zero, List.set_cons_succ]
                refine wpAnyH_take (i := 12) (oi := ⟨_, _, _, _, _, _⟩) (v := ?v57) rfl (by kernel_rfl) (by kernel_rfl) (by kernel_rfl) (fun _ _ _ h => h) (Or.inl ⟨by rfl, ?hy57⟩) hHeld ?rest57
                case hy57 => (intro w2 hSw; (try dsimp only at hSw); go_split_ands; go_simp; first | done | with_reducible rfl)
                try simp only [Act.put, List.setIfInBounds_toArray, List.set_cons_zero, List.set_cons_succ]
                refine wpAnyH_take (i := 13) (oi := ⟨_, _, _, _, _, _⟩) (v := ?v58) rfl (by kernel_rfl) (by kernel_rfl) (by kernel_rfl) (fun _ _ _ h => h) (Or.inl ⟨by rfl, ?hy58⟩) hHeld ?rest58
                case hy58 => (intro w2 hSw; (try dsimp only at hSw); go_split_ands; go_simp; first | done | with_reducible rfl)
                try simp only [Act.put, List.setIfInBounds_toArray, List.set_cons_zero, List.set_cons_succ]
                refine wpAnyH_ready (rs := [14]) (by kernel_rfl) (by simp) ?_
                refine AllReadyH.cons (o := ⟨_, _, _, _, _, _⟩) rfl (fun K hK => ?_) AllReadyH.nil
                go_split_ands
                go_simp
                refine hK.out _ _ ⟨al_cell2 (Nat.lt_of_lt_of_le hab2 hb.size) ((hb.cell (p := ⟨ab, _, none⟩) hab2).trans hn0), al_cell2 (Nat.lt_of_lt_of_le hab2 hb.size) ((hb.cell (p := ⟨ab, _, none⟩) hab2).trans hn1), al_cell2 (Nat.lt_of_lt_of_le hab2 hb.size) ((hb.cell (p := ⟨ab, _, none⟩) hab2).trans hn2), al_cell2 (Nat.lt_of_lt_of_le hab2 hb.size) ((hb.cell (p := ⟨ab, _, none⟩) hab2).trans hn3), al_cell2 (Nat.lt_of_lt_of_le hab2 hb.size) ((hb.cell (p := ⟨ab, _, none⟩) hab2).trans hn4), al_cell2 (Nat.lt_of_lt_of_le hab2 hb.size) ((hb.cell (p := ⟨ab, _, none⟩) hab2).trans hn5), al_cell2 (Nat.lt_of_lt_of_le hab2 hb.size) ((hb.cell (p := ⟨ab, _, none⟩) hab2).trans hn6), al_cell2 (Nat.lt_of_lt_of_le hab2 hb.size) ((hb.cell (p := ⟨ab, _, none⟩) hab2).trans hn7), al_cell2 (Nat.lt_of_lt_of_le hab2 hb.size) ((hb.cell (p := ⟨ab, _, none⟩) hab2).trans hn8), al_cell2 (Nat.lt_of_lt_of_le hab2 hb.size) ((hb.cell (p := ⟨ab, _, none⟩) hab2).trans hn9), al_cell2 (Nat.lt_of_lt_of_le hab2 hb.size) ((hb.cell (p := ⟨ab, _, none⟩) hab2).trans hn10), al_cell2 (Nat.lt_of_lt_of_le hab2 hb.size) ((hb.cell (p := ⟨ab, _, none⟩) hab2).trans hn11), al_cell2 (Nat.lt_of_lt_of_le hab2 hb.size) ((hb.cell (p := ⟨ab, _, none⟩) hab2).trans hn12), al_cell2 (Nat.lt_of_lt_of_le hab2 hb.size) ((hb.cell (p := ⟨ab, _, none⟩) hab2).trans hn13), al_cell2 (Nat.lt_of_lt_of_le hab2 hb.size) ((hb.cell (p := ⟨ab, _, none⟩) hab2).trans hn14)⟩ (fun hHeld => ?_)
                clear hK K
                try simp only [Act.put, List.setIfInBounds_toArray, List.set_cons_zero, List.set_cons_succ]
                refine wpAnyH_ready (rs := [15]) (by kernel_rfl) (by simp) ?_
                refine AllReadyH.cons (o := ⟨_, _, _, _, _, _⟩) rfl (fun K hK => ?_) AllReadyH.nil
                go_split_ands
                go_simp
                refine hK.out _ _ ⟨al_cell2 (Nat.lt_of_lt_of_le hab2 hb.size) ((hb.cell (p := ⟨ab, _, none⟩) hab2).trans hn0), al_cell2 (Nat.lt_of_lt_of_le hab2 hb.size) ((hb.cell (p := ⟨ab, _, none⟩) hab2).trans hn1), al_cell2 (Nat.lt_of_lt_of_le hab2 hb.size) ((hb.cell (p := ⟨ab, _, none⟩) hab2).trans hn2), al_cell2 (Nat.lt_of_lt_of_le hab2 hb.size) ((hb.cell (p := ⟨ab, _, none⟩) hab2).trans hn3), al_cell2 (Nat.lt_of_lt_of_le hab2 hb.size) ((hb.cell (p := ⟨ab, _, none⟩) hab2).trans hn4), al_cell2 (Nat.lt_of_lt_of_le hab2 hb.size) ((hb.cell (p := ⟨ab, _, none⟩) hab2).trans hn5), al_cell2 (Nat.lt_of_lt_of_le hab2 hb.size) ((hb.cell (p := ⟨ab, _, none⟩) hab2).trans hn6), al_cell2 (Nat.lt_of_lt_of_le hab2 hb.size) ((hb.cell (p := ⟨ab, _, none⟩) hab2).trans hn7), al_cell2 (Nat.lt_of_lt_of_le hab2 hb.size) ((hb.cell (p := ⟨ab, _, none⟩) hab2).trans hn8), al_cell2 (Nat.lt_of_lt_of_le hab2 hb.size) ((hb.cell (p := ⟨ab, _, none⟩) hab2).trans hn9), al_cell2 (Nat.lt_of_lt_of_le hab2 hb.size) ((hb.cell (p := ⟨ab, _, none⟩) hab2).trans hn10), al_cell2 (Nat.lt_of_lt_of_le hab2 hb.size) ((hb.cell (p := ⟨ab, _, none⟩) hab2).trans hn11), al_cell2 (Nat.lt_of_lt_of_le hab2 hb.size) ((hb.cell (p := ⟨ab, _, none⟩) hab2).trans hn12), al_cell2 (Nat.lt_of_lt_of_le hab2 hb.size) ((hb.cell (p := ⟨ab, _, none⟩) hab2).trans hn13), al_cell2 (Nat.lt_of_lt_of_le hab2 hb.size) ((hb.cell (p := ⟨ab, _, none⟩) hab2).trans hn14)⟩ (fun hHeld => ?_)
                clear hK K
                try simp only [Act.put, List.setIfInBounds_toArray, List.set_cons_zero, List.set_cons_succ]
                refine wpAnyH_take (i := 16) (oi := ⟨_, _, _, _, _, _⟩) (v := ?v59) rfl (by kernel_rfl) (by kernel_rfl) (by kernel_rfl) (fun _ _ _ h => h) (Or.inl ⟨by rfl, ?hy59⟩) hHeld ?rest59
                case hy59 => (intro w2 hSw; (try dsimp only at hSw); go_split_ands; go_simp; first | done | with_reducible rfl)
                try simp only [Act.put, List.setIfInBounds_toArray, List.set_cons_zero, List.set_cons_succ]
                refine wpAnyH_done (by kernel_rfl) ?_ _
                refine NoPanic.normal ?_
                go_wp2
                go_meet
                case rel => exact ⟨_, rfl, rfl, hb.size, heap_alloc_new _ _, hb.alloc hb.size _⟩
              · go_split_ands
                go_simp
                refine hK.out _ _ ⟨al_cell2 hab2 hn0, al_cell2 hab2 hn1, al_cell2 hab2 hn2, al_cell2 hab2 hn3, al_cell2 hab2 hn4, al_cell2 hab2 hn5, al_cell2 hab2 hn6, al_cell2 hab2 hn7, al_cell2 hab2 hn8, al_cell2 hab2 hn9, al_cell2 hab2 hn10, al_cell2 hab2 hn11, al_cell2 hab2 hn12, al_cell2 hab2 hn13, al_cell2 hab2 hn14⟩ (fun hHeld => ?_)
                clear hK K
                try simp only [Act.put, List.setIfInBounds_toArray, List.set_cons_zero, List.set_cons_succ]
                refine wpAnyH_ready (rs := [10]) (by kernel_rfl) (by simp) ?_
                refine AllReadyH.cons (o := ⟨_, _, _, _, _, _⟩) rfl (fun K hK => ?_) AllReadyH.nil
                go_split_ands
                go_simp
                refine (hPAH.out _ (some ⟨g, p * 3, none⟩) (cap' - p) (rd_up (rd_nil w2 _) (((Below.refl _ _).alloc (Nat.le_refl _) _).drew))).mono ?_
                rintro e w3 ⟨rfl, hb0⟩
                have hb1 : Below (w2.heap.size + 1) (w2.alloc (.cells #[.int .i64 0, .int .i64 0, .bool false] 66)) w3 := ((Below.refl _ _).drew).trans (hb0.mono (by simp))
                have hb : Below w2.heap.size w2 w3 := ((Below.refl _ _).alloc (Nat.le_refl _) (.cells #[.int .i64 0, .int .i64 0, .bool false] 66)).trans (hb1.mono (by omega))
                have hbP := (hb1.block w2.heap.size (by omega)).trans (heap_alloc_new w2 (.cells #[.int .i64 0, .int .i64 0, .bool false] 66))
                have hzc0 := blk_cell hbP 0
                have hzc1 := blk_cell hbP 1
                have hzc2 := blk_cell hbP 2
                have hzf0 := blk_frozen hbP 0
                have hzf1 := blk_frozen hbP 1
                have hzf2 := blk_frozen hbP 2
                refine hK.out _ _ ⟨(hb.cell (p := ⟨ab, _, none⟩) hab2).trans hn0, (hb.cell (p := ⟨ab, _, none⟩) hab2).trans hn1, (hb.cell (p := ⟨ab, _, none⟩) hab2).trans hn2, (hb.cell (p := ⟨ab, _, none⟩) hab2).trans hn3, (hb.cell (p := ⟨ab, _, none⟩) hab2).trans hn4, (hb.cell (p := ⟨ab, _, none⟩) hab2).trans hn5, (hb.cell (p := ⟨ab, _, none⟩) hab2).trans hn6, (hb.cell (p := ⟨ab, _, none⟩) hab2).trans hn7, (hb.cell (p := ⟨ab, _, none⟩) hab2).trans hn8, (hb.cell (p := ⟨ab, _, none⟩) hab2).trans hn9, (hb.cell (p := ⟨ab, _, none⟩) hab2).trans hn10, (hb.cell (p := ⟨ab, _, none⟩) hab2).trans hn11, (hb.cell (p := ⟨ab, _, none⟩) hab2).trans hn12, (hb.cell (p := ⟨ab, _, none⟩) hab2).trans hn13, (hb.cell (p := ⟨ab, _, none⟩) hab2).trans hn14⟩ (fun hHeld => ?_)
                clear hK K hb0 hb1
                try simp only [Act.put, List.setIfInBounds_toArray, List.set_cons_zero, List.set_cons_succ]
                refine wpAnyH_take (i := 11) (oi := ⟨_, _, _, _, _, _⟩) (v := ?v60) rfl (by kernel_rfl) (by kernel_rfl) (by kernel_rfl) (fun _ _ _ h => h) (Or.inl ⟨by rfl, ?hy60⟩) hHeld ?rest60
                case hy60 => (intro w2 hSw; (try dsimp only at hSw); go_split_ands; go_simp; first | done | with_reducible rfl)
                try simp only [Act.put, List.setIfInBounds_toArray, List.set_cons_zero, List.set_cons_succ]
                refine wpAnyH_take (i := 12) (oi := ⟨_, _, _, _, _, _⟩) (v := ?v61) rfl (by kernel_rfl) (by kernel_rfl) (by kernel_rfl) (fun _ _ _ h => h) (Or.inl ⟨by rfl, ?hy61⟩) hHeld ?rest61
                case hy61 => (intro w2 hSw; (try dsimp only at hSw); go_split_ands; go_simp; first | done | with_reducible rfl)
                try simp only [Act.put, List.setIfInBounds_toArray, List.set_cons_zero, List.set_cons_succ]
                refine wpAnyH_take (i := 13) (oi := ⟨_, _, _, _, _, _⟩) (v := ?v62) rfl (by kernel_rfl) (by kernel_rfl) (by kernel_rfl) (fun _ _ _ h => h) (Or.inl ⟨by rfl, ?hy62⟩) hHeld ?rest62
                case hy62 => (intro w2 hSw; (try dsimp only at hSw); go_split_ands; go_simp; first | done | with_reducible rfl)
                try simp only [Act.put, List.setIfInBounds_toArray, List.set_cons_zero, List.set_cons_succ]
                refine wpAnyH_ready (rs := [15]) (by kernel_rfl) (by simp) ?_
                refine AllReadyH.cons (o := ⟨_, _, _, _, _, _⟩) rfl (fun K hK => ?_) AllReadyH.nil
                go_split_ands
                go_simp
                refine hK.out _ _ ⟨sc3_cell habP ((hb.cell (p := ⟨ab, _, none⟩) hab2).trans hn0), sc3_cell habP ((hb.cell (p := ⟨ab, _, none⟩) hab2).trans hn1), sc3_cell habP ((hb.cell (p := ⟨ab, _, none⟩) hab2).trans hn2), sc3_cell habP ((hb.cell (p := ⟨ab, _, none⟩) hab2).trans hn3), sc3_cell habP ((hb.cell (p := ⟨ab, _, none⟩) hab2).trans hn4), sc3_cell habP ((hb.cell (p := ⟨ab, _, none⟩) hab2).trans hn5), sc3_cell habP ((hb.cell (p := ⟨ab, _, none⟩) hab2).trans hn6), sc3_cell habP ((hb.cell (p := ⟨ab, _, none⟩) hab2).trans hn7), sc3_cell habP ((hb.cell (p := ⟨ab, _, none⟩) hab2).trans hn8), sc3_cell habP ((hb.cell (p := ⟨ab, _, none⟩) hab2).trans hn9), sc3_cell habP ((hb.cell (p := ⟨ab, _, none⟩) hab2).trans hn10), sc3_cell habP ((hb.cell (p := ⟨ab, _, none⟩) hab2).trans hn11), sc3_cell habP ((hb.cell (p := ⟨ab, _, none⟩) hab2).trans hn12), sc3_cell habP ((hb.cell (p := ⟨ab, _, none⟩) hab2).trans hn13), sc3_cell habP ((hb.cell (p := ⟨ab, _, none⟩) hab2).trans hn14)⟩ (fun hHeld => ?_)
                clear hK K
                try simp only [Act.put, List.setIfInBounds_toArray, List.set_cons_zero, List.set_cons_succ]
                refine wpAnyH_take (i := 16) (oi := ⟨_, _, _, _, _, _⟩) (v := ?v63) rfl (by kernel_rfl) (by kernel_rfl) (by kernel_rfl) (fun _ _ _ h => h) (Or.inl ⟨by rfl, ?hy63⟩) hHeld ?rest63
                case hy63 => (intro w2 hSw; (try dsimp only at hSw); go_split_ands; go_simp; first | done | with_reducible rfl)
                try simp only [Act.put, List.setIfInBounds_toArray, List.set_cons_zero, List.set_cons_succ]
                refine wpAnyH_done (by kernel_rfl) ?_ _
                refine NoPanic.normal ?_
                go_wp2
                go_meet
                case rel => exact ⟨w2.heap.size, rfl, rfl, Nat.le_refl _, row_set3 hbP, ((hb.setCell (p := ⟨w2.heap.size, 0, none⟩) (Nat.le_refl _) _).setCell (p := ⟨w2.heap.size, 1, none⟩) (Nat.le_refl _) _).setCell (p := ⟨w2.heap.size, 2, none⟩) (Nat.le_refl _) _⟩
            case rest =>
              obtain ⟨P, rfl, rfl, hPz, hP, hbc⟩ := hcut
              have hbc2 : Below w.heap.size w wc := hbr2.trans (hbc.mono hbr2.size)
              have hzc := hbc.size
              have hownc := ownsRow_below hownN hbc
              have hcut9 := ownsRow_cut (ys := plRow s) (zs := plRow []) (m := p) hownc (plRow_app s []) (by rw [plRow_len, hp]) (by omega) (fun e => by cases e)
              have hbc2z := hbc2.size
              cases ok
              · clear hcut9 hownc
                go_wp2
                go_ret2
                exact ⟨Or.inr ⟨hno'.out (j + 1) (by rw [hput'.out]; exact hstepH.out), rfl⟩, hbc2⟩
              clear hownc
              have hownn := World.ownsRow_nil wc w.heap.size 66 3
              go_upto_region 14 with (at_builtin; go_loud (refine wpList_append_own_at _ rfl _ _ 62 rfl w.heap.size 66 i0 (.agg #[.int .i64 0, .int .i64 0, .bool false]) 3 24 Tryd.underlying62 hi hz0 hz1 hz2 rfl (by decide) _ _ _ rfl hownn ⟨g, 0, none⟩ p cap' (plRow s) rfl (by rw [plRow_len, hp]) (own_news hcut9) (fun u hu => plRow_one' hu) (by unfold maxLen; omega) (by omega) (by omega) ?_); intro v5 w5 hown5 hgrow5 _ _; have hP5 := (hgrow5.block P (Array.getElem?_eq_some_iff.1 hP).1 (by intro e; cases e)).trans hP; have hq0 : w5.cell? ⟨P, 0, none⟩ = some (.int .i64 r.depth) := blk_cell hP5 0; have hq1 : w5.cell? ⟨P, 1, none⟩ = some (.int .i64 r.binds) := blk_cell hP5 1; have hq2 : w5.cell? ⟨P, 2, none⟩ = some (.bool r.many) := blk_cell hP5 2)
              have hbr5 : Below w.heap.size w w5 := hbc2.grown hgrow5 (by omega) (fun q hq => by cases hq)
              rw [Nat.zero_add, List.nil_append] at hown5
              clear hgrow5 hownn
              trace_state
              have hvg := heap_alloc_new w5 (.cells #[.int .i64 r.depth, .int .i64 r.binds, .bool r.many] 66)
              have hB6 : Below w.heap.size w (w5.alloc (.cells #[.int .i64 r.depth, .int .i64 r.binds, .bool r.many] 66)) := hbr5.alloc (by have := hbr5.size; omega) _
              have hown6 := World.ownsRow.alloc hown5 (.cells #[.int .i64 r.depth, .int .i64 r.binds, .bool r.many] 66)
              go_wp2_with (at_builtin; go_loud (refine wpList_append_own_at _ rfl _ _ 62 rfl w.heap.size 66 i0 (.agg #[.int .i64 0, .int .i64 0, .bool false]) 3 24 Tryd.underlying62 hi hz0 hz1 hz2 rfl (by decide) _ _ _ rfl hown6 ⟨w5.heap.size, 0, none⟩ 1 1 r.cs rfl rfl (World.news_of_block hvg) (by simp [PL.cs, Value.oneCell']) (by unfold maxLen; omega) (by omega) (by have := hbr5.size; simp; omega) ?_); intro v7 w7 hown7 hgrow7 _ _)
              clear hvg
              have hbr7 : Below w.heap.size w w7 := hB6.grown hgrow7 (by have := hbr5.size; simp; omega) (fun q hq => (World.ownsRow.lt hown6 q hq).1)
              clear hgrow7
              go_roundw
              case rel => exact ⟨j + 1, s ++ [r], by omega, by go_num, Lib.hid (by rw [hput'.out, hstepH.out]; rfl), Lib.hid ((hdep.out.left.mono (by omega)).app hrdH.out.1 (by have := hrdH.out.2; omega)), by simp; omega, by unfold OwnR; rw [plRow_app, plRow_one, List.length_append, hp]; exact hown7, hbr7⟩
              case measure => simp [intOf]; omega
      rcases hown2.form hpk with ⟨h0, rfl⟩ | ⟨g, cap', rfl, hBg, hgw, hle, hrow⟩
      · omega
      have hownN : w2.ownsRow w.heap.size 66 3 (.slice (some ⟨g, 0, none⟩) (p + k) cap') (p + k) (plRow (s ++ t)) := by
        have h := hown2
        unfold OwnR at h
        rwa [hpk] at h
      have hcp : ¬ cap' = p := by omega
      have hRT : RdB w2 w2.heap.size (some ⟨g, p * 3, none⟩) 3 (t.map PL.cs) := fun i c hi => by
        rw [List.getElem?_map] at hi
        obtain ⟨x, hx, rfl⟩ := Option.map_eq_some_iff.1 hi
        have hik : i < k := by rw [← ht]; exact (List.getElem?_eq_some_iff.1 hx).1
        refine ⟨g, p * 3, rfl, hgw, fun q u hu => ?_⟩
        have hq3 : q < 3 := (List.getElem?_eq_some_iff.1 hu).1
        rw [hrow _ (by omega)]
        exact plRow_at' s t p i hp x hx q u hu
      have hwk : IntKind.i64.wrap ((p : Int) + (k : Int) - (k : Int)) = (p : Int) := by rw [IntWalk.i64_in _ (by omega)]; omega
      have hlki : ¬ ((p : Int) + (k : Int) < (k : Int)) := by omega
      have hi1 : (p : Int) ≤ (p : Int) + (k : Int) := by omega
      have hpc : p ≤ cap' := by omega
      have hgab : g ≠ ab := by omega
      clear hrow
      as_aux_lemma =>
        have hwp : IntKind.i64.wrap (p : Int) = (p : Int) := IntWalk.i64_in _ (by omega)
        have hi0 : (0 : Int) ≤ (p : Int) := by omega
        have habP : ab ≠ w2.heap.size := by omega
        go_upto_region 9 with fail
        go_cut [8, 9] from 11 to 62 (fun x y wc => ∃ P, x = .pointer (some ⟨P, 0, none⟩) ∧ y = .bool ok ∧ w2.heap.size ≤ P ∧ wc.heap[P]? = some (.cells #[.int .i64 r.depth, .int .i64 r.binds, .bool r.many] 66 (0, 0)) ∧ Below w2.heap.size w2 wc)
        case first =>
          refine wp_region_noPanic ?_
          refine wp_region_held_drew (S := fun w' => w'.cell? ⟨ab, ao + j * 15, none⟩ = some (.int .i64 n.kind) ∧ w'.cell? ⟨ab, ao + j * 15 + 1, none⟩ = some (.int .i64 n.v.t) ∧ w'.cell? ⟨ab, ao + j * 15 + 2, none⟩ = some (.int .i64 n.v.n) ∧ w'.cell? ⟨ab, ao + j * 15 + 3, none⟩ = some (.string n.v.s) ∧ w'.cell? ⟨ab, ao + j * 15 + 4, none⟩ = some (.bool n.v.b) ∧ w'.cell? ⟨ab, ao + j * 15 + 5, none⟩ = some (.int .i64 n.v.c) ∧ w'.cell? ⟨ab, ao + j * 15 + 6, none⟩ = some (.int .i64 n.r) ∧ w'.cell? ⟨ab, ao + j * 15 + 7, none⟩ = some (.int .i64 n.c) ∧ w'.cell? ⟨ab, ao + j * 15 + 8, none⟩ = some (.int .i64 n.t) ∧ w'.cell? ⟨ab, ao + j * 15 + 9, none⟩ = some (.int .i64 n.l) ∧ w'.cell? ⟨ab, ao + j * 15 + 10, none⟩ = some (.int .i64 n.b) ∧ w'.cell? ⟨ab, ao + j * 15 + 11, none⟩ = some (.int .i64 n.q) ∧ w'.cell? ⟨ab, ao + j * 15 + 12, none⟩ = some (.int .i64 n.op) ∧ w'.cell? ⟨ab, ao + j * 15 + 13, none⟩ = some (.string n.name) ∧ w'.cell? ⟨ab, ao + j * 15 + 14, none⟩ = some (.int .i64 n.args)) (by kernel_rfl) ⟨hn0, hn1, hn2, hn3, hn4, hn5, hn6, hn7, hn8, hn9, hn10, hn11, hn12, hn13, hn14⟩ (fun hHeld => ?_)
          refine wpAnyH_take (i := 0) (oi := ⟨_, _, _, _, _, _⟩) (v := ?v64) rfl (by kernel_rfl) (by kernel_rfl) (by kernel_rfl) (fun _ _ _ h => h) (Or.inl ⟨by rfl, ?hy64⟩) hHeld ?rest64
          case hy64 => (intro w2 hSw; (try dsimp only at hSw); go_split_ands; go_simp; first | done | with_reducible rfl)
          try simp only [Act.put, List.setIfInBounds_toArray, List.set_cons_zero, List.set_cons_succ]
          refine wpAnyH_take (i := 1) (oi := ⟨_, _, _, _, _, _⟩) (v := ?v65) rfl (by kernel_rfl) (by kernel_rfl) (by kernel_rfl) (fun _ _ _ h => h) (Or.inl ⟨by rfl, ?hy65⟩) hHeld ?rest65
          case hy65 => (intro w2 hSw; (try dsimp only at hSw); go_split_ands; go_simp; first | done | with_reducible rfl)
          try simp only [Act.put, List.setIfInBounds_toArray, List.set_cons_zero, List.set_cons_succ]
          refine wpAnyH_take (i := 2) (oi := ⟨_, _, _, _, _, _⟩) (v := ?v66) rfl (by kernel_rfl) (by kernel_rfl) (by kernel_rfl) (fun _ _ _ h => h) (Or.inl ⟨by rfl, ?hy66⟩) hHeld ?rest66
          case hy66 => (intro w2 hSw; (try dsimp only at hSw); go_split_ands; go_simp; first | done | with_reducible rfl)
          try simp only [Act.put, List.setIfInBounds_toArray, List.set_cons_zero, List.set_cons_succ]
          refine wpAnyH_take (i := 3) (oi := ⟨_, _, _, _, _, _⟩) (v := ?v67) rfl (by kernel_rfl) (by kernel_rfl) (by kernel_rfl) (fun _ _ _ h => h) (Or.inl ⟨by rfl, ?hy67⟩) hHeld ?rest67
          case hy67 => (intro w2 hSw; (try dsimp only at hSw); go_split_ands; go_simp; first | done | with_reducible rfl)
          try simp only [Act.put, List.setIfInBounds_toArray, List.set_cons_zero, List.set_cons_succ]
          refine wpAnyH_take (i := 4) (oi := ⟨_, _, _, _, _, _⟩) (v := ?v68) rfl (by kernel_rfl) (by kernel_rfl) (by kernel_rfl) (fun _ _ _ h => h) (Or.inl ⟨by rfl, ?hy68⟩) hHeld ?rest68
          case hy68 => (intro w2 hSw; (try dsimp only at hSw); go_split_ands; go_simp; first | done | with_reducible rfl)
          try simp only [Act.put, List.setIfInBounds_toArray, List.set_cons_zero, List.set_cons_succ]
          refine wpAnyH_take (i := 5) (oi := ⟨_, _, _, _, _, _⟩) (v := ?v69) rfl (by kernel_rfl) (by kernel_rfl) (by kernel_rfl) (fun _ _ _ h => h) (Or.inl ⟨by rfl, ?hy69⟩) hHeld ?rest69
          case hy69 => (intro w2 hSw; (try dsimp only at hSw); go_split_ands; go_simp; first | done | with_reducible rfl)
          try simp only [Act.put, List.setIfInBounds_toArray, List.set_cons_zero, List.set_cons_succ]
          refine wpAnyH_take (i := 6) (oi := ⟨_, _, _, _, _, _⟩) (v := ?v70) rfl (by kernel_rfl) (by kernel_rfl) (by kernel_rfl) (fun _ _ _ h => h) (Or.inl ⟨by rfl, ?hy70⟩) hHeld ?rest70
          case hy70 => (intro w2 hSw; (try dsimp only at hSw); go_split_ands; go_simp; first | done | with_reducible rfl)
          try simp only [Act.put, List.setIfInBounds_toArray, List.set_cons_zero, List.set_cons_succ]
          refine wpAnyH_take (i := 7) (oi := ⟨_, _, _, _, _, _⟩) (v := ?v71) rfl (by kernel_rfl) (by kernel_rfl) (by kernel_rfl) (fun _ _ _ h => h) (Or.inl ⟨by rfl, ?hy71⟩) hHeld ?rest71
          case hy71 => (intro w2 hSw; (try dsimp only at hSw); go_split_ands; go_simp; first | done | with_reducible rfl)
          try simp only [Act.put, List.setIfInBounds_toArray, List.set_cons_zero, List.set_cons_succ]
          refine wpAnyH_take (i := 8) (oi := ⟨_, _, _, _, _, _⟩) (v := ?v72) rfl (by kernel_rfl) (by kernel_rfl) (by kernel_rfl) (fun _ _ _ h => h) (Or.inl ⟨by rfl, ?hy72⟩) hHeld ?rest72
          case hy72 => (intro w2 hSw; (try dsimp only at hSw); go_split_ands; go_simp; first | done | with_reducible rfl)
          try simp only [Act.put, List.setIfInBounds_toArray, List.set_cons_zero, List.set_cons_succ]
          refine wpAnyH_take (i := 9) (oi := ⟨_, _, _, _, _, _⟩) (v := ?v73) rfl (by kernel_rfl) (by kernel_rfl) (by kernel_rfl) (fun _ _ _ h => h) (Or.inl ⟨by rfl, ?hy73⟩) hHeld ?rest73
          case hy73 => (intro w2 hSw; (try dsimp only at hSw); go_split_ands; go_simp; first | done | with_reducible rfl)
          try simp only [Act.put, List.setIfInBounds_toArray, List.set_cons_zero, List.set_cons_succ]
          refine wpAnyH_ready (rs := [10, 14]) (by kernel_rfl) (by simp) ?_
          refine AllReadyH.cons (o := ⟨_, _, _, _, _, _⟩) rfl (fun K hK => ?_) (AllReadyH.cons (o := ⟨_, _, _, _, _, _⟩) rfl (fun K hK => ?_) AllReadyH.nil)
          · go_split_ands
            go_simp
            refine (hPAH.out _ (some ⟨g, p * 3, none⟩) (cap' - p) (rd_up (hRT) ((Below.refl _ _).drew))).mono ?_
            rintro e w3 ⟨rfl, hb0⟩
            have hb : Below w2.heap.size w2 w3 := ((Below.refl w2.heap.size w2).drew).trans hb0
            refine hK.out _ _ ⟨(hb.cell (p := ⟨ab, _, none⟩) hab2).trans hn0, (hb.cell (p := ⟨ab, _, none⟩) hab2).trans hn1, (hb.cell (p := ⟨ab, _, none⟩) hab2).trans hn2, (hb.cell (p := ⟨ab, _, none⟩) hab2).trans hn3, (hb.cell (p := ⟨ab, _, none⟩) hab2).trans hn4, (hb.cell (p := ⟨ab, _, none⟩) hab2).trans hn5, (hb.cell (p := ⟨ab, _, none⟩) hab2).trans hn6, (hb.cell (p := ⟨ab, _, none⟩) hab2).trans hn7, (hb.cell (p := ⟨ab, _, none⟩) hab2).trans hn8, (hb.cell (p := ⟨ab, _, none⟩) hab2).trans hn9, (hb.cell (p := ⟨ab, _, none⟩) hab2).trans hn10, (hb.cell (p := ⟨ab, _, none⟩) hab2).trans hn11, (hb.cell (p := ⟨ab, _, none⟩) hab2).trans hn12, (hb.cell (p := ⟨ab, _, none⟩) hab2).trans hn13, (hb.cell (p := ⟨ab, _, none⟩) hab2).trans hn14⟩ (fun hHeld => ?_)
            clear hK K hb0
            try simp only [Act.put, List.setIfInBounds_toArray, List.set_cons_zero, List.set_cons_succ]
            refine wpAnyH_take (i := 11) (oi := ⟨_, _, _, _, _, _⟩) (v := ?v77) rfl (by kernel_rfl) (by kernel_rfl) (by kernel_rfl) (fun _ _ _ h => h) (Or.inl ⟨by rfl, ?hy77⟩) hHeld ?rest77
            case hy77 => (intro w2 hSw; (try dsimp only at hSw); go_split_ands; go_simp; first | done | with_reducible rfl)
            try simp only [Act.put, List.setIfInBounds_toArray, List.set_cons_zero, List.set_cons_succ]
            refine wpAnyH_take (i := 12) (oi := ⟨_, _, _, _, _, _⟩) (v := ?v78) rfl (by kernel_rfl) (by kernel_rfl) (by kernel_rfl) (fun _ _ _ h => h) (Or.inl ⟨by rfl, ?hy78⟩) hHeld ?rest78
            case hy78 => (intro w2 hSw; (try dsimp only at hSw); go_split_ands; go_simp; first | done | with_reducible rfl)
            try simp only [Act.put, List.setIfInBounds_toArray, List.set_cons_zero, List.set_cons_succ]
            refine wpAnyH_take (i := 13) (oi := ⟨_, _, _, _, _, _⟩) (v := ?v79) rfl (by kernel_rfl) (by kernel_rfl) (by kernel_rfl) (fun _ _ _ h => h) (Or.inl ⟨by rfl, ?hy79⟩) hHeld ?rest79
            case hy79 => (intro w2 hSw; (try dsimp only at hSw); go_split_ands; go_simp; first | done | with_reducible rfl)
            try simp only [Act.put, List.setIfInBounds_toArray, List.set_cons_zero, List.set_cons_succ]
            refine wpAnyH_ready (rs := [14]) (by kernel_rfl) (by simp) ?_
            refine AllReadyH.cons (o := ⟨_, _, _, _, _, _⟩) rfl (fun K hK => ?_) AllReadyH.nil
            go_split_ands
            go_simp
            refine hK.out _ _ ⟨al_cell2 (Nat.lt_of_lt_of_le hab2 hb.size) ((hb.cell (p := ⟨ab, _, none⟩) hab2).trans hn0), al_cell2 (Nat.lt_of_lt_of_le hab2 hb.size) ((hb.cell (p := ⟨ab, _, none⟩) hab2).trans hn1), al_cell2 (Nat.lt_of_lt_of_le hab2 hb.size) ((hb.cell (p := ⟨ab, _, none⟩) hab2).trans hn2), al_cell2 (Nat.lt_of_lt_of_le hab2 hb.size) ((hb.cell (p := ⟨ab, _, none⟩) hab2).trans hn3), al_cell2 (Nat.lt_of_lt_of_le hab2 hb.size) ((hb.cell (p := ⟨ab, _, none⟩) hab2).trans hn4), al_cell2 (Nat.lt_of_lt_of_le hab2 hb.size) ((hb.cell (p := ⟨ab, _, none⟩) hab2).trans hn5), al_cell2 (Nat.lt_of_lt_of_le hab2 hb.size) ((hb.cell (p := ⟨ab, _, none⟩) hab2).trans hn6), al_cell2 (Nat.lt_of_lt_of_le hab2 hb.size) ((hb.cell (p := ⟨ab, _, none⟩) hab2).trans hn7), al_cell2 (Nat.lt_of_lt_of_le hab2 hb.size) ((hb.cell (p := ⟨ab, _, none⟩) hab2).trans hn8), al_cell2 (Nat.lt_of_lt_of_le hab2 hb.size) ((hb.cell (p := ⟨ab, _, none⟩) hab2).trans hn9), al_cell2 (Nat.lt_of_lt_of_le hab2 hb.size) ((hb.cell (p := ⟨ab, _, none⟩) hab2).trans hn10), al_cell2 (Nat.lt_of_lt_of_le hab2 hb.size) ((hb.cell (p := ⟨ab, _, none⟩) hab2).trans hn11), al_cell2 (Nat.lt_of_lt_of_le hab2 hb.size) ((hb.cell (p := ⟨ab, _, none⟩) hab2).trans hn12), al_cell2 (Nat.lt_of_lt_of_le hab2 hb.size) ((hb.cell (p := ⟨ab, _, none⟩) hab2).trans hn13), al_cell2 (Nat.lt_of_lt_of_le hab2 hb.size) ((hb.cell (p := ⟨ab, _, none⟩) hab2).trans hn14)⟩ (fun hHeld => ?_)
            clear hK K
            try simp only [Act.put, List.setIfInBounds_toArray, List.set_cons_zero, List.set_cons_succ]
            refine wpAnyH_ready (rs := [15]) (by kernel_rfl) (by simp) ?_
            refine AllReadyH.cons (o := ⟨_, _, _, _, _, _⟩) rfl (fun K hK => ?_) AllReadyH.nil
            go_split_ands
            go_simp
            refine hK.out _ _ ⟨al_cell2 (Nat.lt_of_lt_of_le hab2 hb.size) ((hb.cell (p := ⟨ab, _, none⟩) hab2).trans hn0), al_cell2 (Nat.lt_of_lt_of_le hab2 hb.size) ((hb.cell (p := ⟨ab, _, none⟩) hab2).trans hn1), al_cell2 (Nat.lt_of_lt_of_le hab2 hb.size) ((hb.cell (p := ⟨ab, _, none⟩) hab2).trans hn2), al_cell2 (Nat.lt_of_lt_of_le hab2 hb.size) ((hb.cell (p := ⟨ab, _, none⟩) hab2).trans hn3), al_cell2 (Nat.lt_of_lt_of_le hab2 hb.size) ((hb.cell (p := ⟨ab, _, none⟩) hab2).trans hn4), al_cell2 (Nat.lt_of_lt_of_le hab2 hb.size) ((hb.cell (p := ⟨ab, _, none⟩) hab2).trans hn5), al_cell2 (Nat.lt_of_lt_of_le hab2 hb.size) ((hb.cell (p := ⟨ab, _, none⟩) hab2).trans hn6), al_cell2 (Nat.lt_of_lt_of_le hab2 hb.size) ((hb.cell (p := ⟨ab, _, none⟩) hab2).trans hn7), al_cell2 (Nat.lt_of_lt_of_le hab2 hb.size) ((hb.cell (p := ⟨ab, _, none⟩) hab2).trans hn8), al_cell2 (Nat.lt_of_lt_of_le hab2 hb.size) ((hb.cell (p := ⟨ab, _, none⟩) hab2).trans hn9), al_cell2 (Nat.lt_of_lt_of_le hab2 hb.size) ((hb.cell (p := ⟨ab, _, none⟩) hab2).trans hn10), al_cell2 (Nat.lt_of_lt_of_le hab2 hb.size) ((hb.cell (p := ⟨ab, _, none⟩) hab2).trans hn11), al_cell2 (Nat.lt_of_lt_of_le hab2 hb.size) ((hb.cell (p := ⟨ab, _, none⟩) hab2).trans hn12), al_cell2 (Nat.lt_of_lt_of_le hab2 hb.size) ((hb.cell (p := ⟨ab, _, none⟩) hab2).trans hn13), al_cell2 (Nat.lt_of_lt_of_le hab2 hb.size) ((hb.cell (p := ⟨ab, _, none⟩) hab2).trans hn14)⟩ (fun hHeld => ?_)
            clear hK K
            try simp only [Act.put, List.setIfInBounds_toArray, List.set_cons_zero, List.set_cons_succ]
            refine wpAnyH_take (i := 16) (oi := ⟨_, _, _, _, _, _⟩) (v := ?v80) rfl (by kernel_rfl) (by kernel_rfl) (by kernel_rfl) (fun _ _ _ h => h) (Or.inl ⟨by rfl, ?hy80⟩) hHeld ?rest80
            case hy80 => (intro w2 hSw; (try dsimp only at hSw); go_split_ands; go_simp; first | done | with_reducible rfl)
            try simp only [Act.put, List.setIfInBounds_toArray, List.set_cons_zero, List.set_cons_succ]
            refine wpAnyH_done (by kernel_rfl) ?_ _
            refine NoPanic.normal ?_
            go_wp2
            go_meet
            case rel => exact ⟨_, rfl, rfl, hb.size, heap_alloc_new _ _, hb.alloc hb.size _⟩
          · go_split_ands
            go_simp
            refine hK.out _ _ ⟨al_cell2 hab2 hn0, al_cell2 hab2 hn1, al_cell2 hab2 hn2, al_cell2 hab2 hn3, al_cell2 hab2 hn4, al_cell2 hab2 hn5, al_cell2 hab2 hn6, al_cell2 hab2 hn7, al_cell2 hab2 hn8, al_cell2 hab2 hn9, al_cell2 hab2 hn10, al_cell2 hab2 hn11, al_cell2 hab2 hn12, al_cell2 hab2 hn13, al_cell2 hab2 hn14⟩ (fun hHeld => ?_)
            clear hK K
            try simp only [Act.put, List.setIfInBounds_toArray, List.set_cons_zero, List.set_cons_succ]
            refine wpAnyH_ready (rs := [10]) (by kernel_rfl) (by simp) ?_
            refine AllReadyH.cons (o := ⟨_, _, _, _, _, _⟩) rfl (fun K hK => ?_) AllReadyH.nil
            go_split_ands
            go_simp
            refine (hPAH.out _ (some ⟨g, p * 3, none⟩) (cap' - p) (rd_up (hRT) (((Below.refl _ _).alloc (Nat.le_refl _) _).drew))).mono ?_
            rintro e w3 ⟨rfl, hb0⟩
            have hb1 : Below (w2.heap.size + 1) (w2.alloc (.cells #[.int .i64 0, .int .i64 0, .bool false] 66)) w3 := ((Below.refl _ _).drew).trans (hb0.mono (by simp))
            have hb : Below w2.heap.size w2 w3 := ((Below.refl _ _).alloc (Nat.le_refl _) (.cells #[.int .i64 0, .int .i64 0, .bool false] 66)).trans (hb1.mono (by omega))
            have hbP := (hb1.block w2.heap.size (by omega)).trans (heap_alloc_new w2 (.cells #[.int .i64 0, .int .i64 0, .bool false] 66))
            have hzc0 := blk_cell hbP 0
            have hzc1 := blk_cell hbP 1
            have hzc2 := blk_cell hbP 2
            have hzf0 := blk_frozen hbP 0
            have hzf1 := blk_frozen hbP 1
            have hzf2 := blk_frozen hbP 2
            refine hK.out _ _ ⟨(hb.cell (p := ⟨ab, _, none⟩) hab2).trans hn0, (hb.cell (p := ⟨ab, _, none⟩) hab2).trans hn1, (hb.cell (p := ⟨ab, _, none⟩) hab2).trans hn2, (hb.cell (p := ⟨ab, _, none⟩) hab2).trans hn3, (hb.cell (p := ⟨ab, _, none⟩) hab2).trans hn4, (hb.cell (p := ⟨ab, _, none⟩) hab2).trans hn5, (hb.cell (p := ⟨ab, _, none⟩) hab2).trans hn6, (hb.cell (p := ⟨ab, _, none⟩) hab2).trans hn7, (hb.cell (p := ⟨ab, _, none⟩) hab2).trans hn8, (hb.cell (p := ⟨ab, _, none⟩) hab2).trans hn9, (hb.cell (p := ⟨ab, _, none⟩) hab2).trans hn10, (hb.cell (p := ⟨ab, _, none⟩) hab2).trans hn11, (hb.cell (p := ⟨ab, _, none⟩) hab2).trans hn12, (hb.cell (p := ⟨ab, _, none⟩) hab2).trans hn13, (hb.cell (p := ⟨ab, _, none⟩) hab2).trans hn14⟩ (fun hHeld => ?_)
            clear hK K hb0 hb1
            try simp only [Act.put, List.setIfInBounds_toArray, List.set_cons_zero, List.set_cons_succ]
            refine wpAnyH_take (i := 11) (oi := ⟨_, _, _, _, _, _⟩) (v := ?v81) rfl (by kernel_rfl) (by kernel_rfl) (by kernel_rfl) (fun _ _ _ h => h) (Or.inl ⟨by rfl, ?hy81⟩) hHeld ?rest81
            case hy81 => (intro w2 hSw; (try dsimp only at hSw); go_split_ands; go_simp; first | done | with_reducible rfl)
            try simp only [Act.put, List.setIfInBounds_toArray, List.set_cons_zero, List.set_cons_succ]
            refine wpAnyH_take (i := 12) (oi := ⟨_, _, _, _, _, _⟩) (v := ?v82) rfl (by kernel_rfl) (by kernel_rfl) (by kernel_rfl) (fun _ _ _ h => h) (Or.inl ⟨by rfl, ?hy82⟩) hHeld ?rest82
            case hy82 => (intro w2 hSw; (try dsimp only at hSw); go_split_ands; go_simp; first | done | with_reducible rfl)
            try simp only [Act.put, List.setIfInBounds_toArray, List.set_cons_zero, List.set_cons_succ]
            refine wpAnyH_take (i := 13) (oi := ⟨_, _, _, _, _, _⟩) (v := ?v83) rfl (by kernel_rfl) (by kernel_rfl) (by kernel_rfl) (fun _ _ _ h => h) (Or.inl ⟨by rfl, ?hy83⟩) hHeld ?rest83
            case hy83 => (intro w2 hSw; (try dsimp only at hSw); go_split_ands; go_simp; first | done | with_reducible rfl)
            try simp only [Act.put, List.setIfInBounds_toArray, List.set_cons_zero, List.set_cons_succ]
            refine wpAnyH_ready (rs := [15]) (by kernel_rfl) (by simp) ?_
            refine AllReadyH.cons (o := ⟨_, _, _, _, _, _⟩) rfl (fun K hK => ?_) AllReadyH.nil
            go_split_ands
            go_simp
            refine hK.out _ _ ⟨sc3_cell habP ((hb.cell (p := ⟨ab, _, none⟩) hab2).trans hn0), sc3_cell habP ((hb.cell (p := ⟨ab, _, none⟩) hab2).trans hn1), sc3_cell habP ((hb.cell (p := ⟨ab, _, none⟩) hab2).trans hn2), sc3_cell habP ((hb.cell (p := ⟨ab, _, none⟩) hab2).trans hn3), sc3_cell habP ((hb.cell (p := ⟨ab, _, none⟩) hab2).trans hn4), sc3_cell habP ((hb.cell (p := ⟨ab, _, none⟩) hab2).trans hn5), sc3_cell habP ((hb.cell (p := ⟨ab, _, none⟩) hab2).trans hn6), sc3_cell habP ((hb.cell (p := ⟨ab, _, none⟩) hab2).trans hn7), sc3_cell habP ((hb.cell (p := ⟨ab, _, none⟩) hab2).trans hn8), sc3_cell habP ((hb.cell (p := ⟨ab, _, none⟩) hab2).trans hn9), sc3_cell habP ((hb.cell (p := ⟨ab, _, none⟩) hab2).trans hn10), sc3_cell habP ((hb.cell (p := ⟨ab, _, none⟩) hab2).trans hn11), sc3_cell habP ((hb.cell (p := ⟨ab, _, none⟩) hab2).trans hn12), sc3_cell habP ((hb.cell (p := ⟨ab, _, none⟩) hab2).trans hn13), sc3_cell habP ((hb.cell (p := ⟨ab, _, none⟩) hab2).trans hn14)⟩ (fun hHeld => ?_)
            clear hK K
            try simp only [Act.put, List.setIfInBounds_toArray, List.set_cons_zero, List.set_cons_succ]
            refine wpAnyH_take (i := 16) (oi := ⟨_, _, _, _, _, _⟩) (v := ?v84) rfl (by kernel_rfl) (by kernel_rfl) (by kernel_rfl) (fun _ _ _ h => h) (Or.inl ⟨by rfl, ?hy84⟩) hHeld ?rest84
            case hy84 => (intro w2 hSw; (try dsimp only at hSw); go_split_ands; go_simp; first | done | with_reducible rfl)
            try simp only [Act.put, List.setIfInBounds_toArray, List.set_cons_zero, List.set_cons_succ]
            refine wpAnyH_done (by kernel_rfl) ?_ _
            refine NoPanic.normal ?_
            go_wp2
            go_meet
            case rel => exact ⟨w2.heap.size, rfl, rfl, Nat.le_refl _, row_set3 hbP, ((hb.setCell (p := ⟨w2.heap.size, 0, none⟩) (Nat.le_refl _) _).setCell (p := ⟨w2.heap.size, 1, none⟩) (Nat.le_refl _) _).setCell (p := ⟨w2.heap.size, 2, none⟩) (Nat.le_refl _) _⟩
        case rest =>
          obtain ⟨P, rfl, rfl, hPz, hP, hbc⟩ := hcut
          have hbc2 : Below w.heap.size w wc := hbr2.trans (hbc.mono hbr2.size)
          have hzc := hbc.size
          have hownc := ownsRow_below hownN hbc
          have hcut9 := ownsRow_cut (ys := plRow s) (zs := plRow t) (m := p) hownc (plRow_app s t) (by rw [plRow_len, hp]) (by omega) (fun e => by cases e)
          have hbc2z := hbc2.size
          cases ok
          · clear hcut9 hownc
            go_wp2
            go_ret2
            exact ⟨Or.inr ⟨hno'.out (j + 1) (by rw [hput'.out]; exact hstepH.out), rfl⟩, hbc2⟩
          clear hownc
          have hownn := World.ownsRow_nil wc w.heap.size 66 3
          go_upto_region 14 with (at_builtin; go_loud (refine wpList_append_own_at _ rfl _ _ 62 rfl w.heap.size 66 i0 (.agg #[.int .i64 0, .int .i64 0, .bool false]) 3 24 Tryd.underlying62 hi hz0 hz1 hz2 rfl (by decide) _ _ _ rfl hownn ⟨g, 0, none⟩ p cap' (plRow s) rfl (by rw [plRow_len, hp]) (own_news hcut9) (fun u hu => plRow_one' hu) (by unfold maxLen; omega) (by omega) (by omega) ?_); intro v5 w5 hown5 hgrow5 _ _; have hP5 := (hgrow5.block P (Array.getElem?_eq_some_iff.1 hP).1 (by intro e; cases e)).trans hP; have hq0 : w5.cell? ⟨P, 0, none⟩ = some (.int .i64 r.depth) := blk_cell hP5 0; have hq1 : w5.cell? ⟨P, 1, none⟩ = some (.int .i64 r.binds) := blk_cell hP5 1; have hq2 : w5.cell? ⟨P, 2, none⟩ = some (.bool r.many) := blk_cell hP5 2)
          have hbr5 : Below w.heap.size w w5 := hbc2.grown hgrow5 (by omega) (fun q hq => by cases hq)
          rw [Nat.zero_add, List.nil_append] at hown5
          clear hgrow5 hownn
          trace_state
          have hvg := heap_alloc_new w5 (.cells #[.int .i64 r.depth, .int .i64 r.binds, .bool r.many] 66)
          have hB6 : Below w.heap.size w (w5.alloc (.cells #[.int .i64 r.depth, .int .i64 r.binds, .bool r.many] 66)) := hbr5.alloc (by have := hbr5.size; omega) _
          have hown6 := World.ownsRow.alloc hown5 (.cells #[.int .i64 r.depth, .int .i64 r.binds, .bool r.many] 66)
          go_wp2_with (at_builtin; go_loud (refine wpList_append_own_at _ rfl _ _ 62 rfl w.heap.size 66 i0 (.agg #[.int .i64 0, .int .i64 0, .bool false]) 3 24 Tryd.underlying62 hi hz0 hz1 hz2 rfl (by decide) _ _ _ rfl hown6 ⟨w5.heap.size, 0, none⟩ 1 1 r.cs rfl rfl (World.news_of_block hvg) (by simp [PL.cs, Value.oneCell']) (by unfold maxLen; omega) (by omega) (by have := hbr5.size; simp; omega) ?_); intro v7 w7 hown7 hgrow7 _ _)
          clear hvg
          have hbr7 : Below w.heap.size w w7 := hB6.grown hgrow7 (by have := hbr5.size; simp; omega) (fun q hq => (World.ownsRow.lt hown6 q hq).1)
          clear hgrow7
          go_roundw
          case rel => exact ⟨j + 1, s ++ [r], by omega, by go_num, Lib.hid (by rw [hput'.out, hstepH.out]; rfl), Lib.hid ((hdep.out.left.mono (by omega)).app hrdH.out.1 (by have := hrdH.out.2; omega)), by simp; omega, by unfold OwnR; rw [plRow_app, plRow_one, List.length_append, hp]; exact hown7, hbr7⟩
          case measure => simp [intOf]; omega
    · obtain rfl : j = ns.length := by omega
      have hnn : ¬ ((ns.length : Int) < (ns.length : Int)) := by omega
      have hpe := Lib.hid (show putP ns = some st by have h := hput.out; rwa [List.take_of_length_le (Nat.le_refl _)] at h)
      go_wp2
      go_ret2
      exact ⟨Or.inl ⟨_, st, hpe.out, rfl, hown⟩, hbr⟩
end Go.Proofs.YtfbkoieodflcpaaDoor
