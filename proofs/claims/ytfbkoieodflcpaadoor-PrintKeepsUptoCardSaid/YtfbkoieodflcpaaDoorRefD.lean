/-
  refs: depth.
-/
import Derived.Test.YtfbkoieodflcpaaDoorPrintL
import Derived.Test.YtfbkoieodflcpaaDoorNumL
import Derived.Test.YtfbkoieodflcpaaDoorRows
import Derived.Test.YtfbkoieodflcpaaDoorBase
import Derived.Test.YtfbkoieodflcpaaDoorProg
import Derived.Test.YtfbkoieodflcpaaDoorShelf
import Derived.Test.YtfbkoieodflcpaaDoorAddrC
import Derived.Test.YtfbkoieodflcpaaDoorNames
import Derived.Test.YtfbkoieodflcpaaDoorParseW
import Derived.Test.YtfbkoieodflcpaaDoorDecA
import Derived.Test.YtfbkoieodflcpaaDoorValA
import Derived.Test.YtfbkoieodflcpaaDoorValB
import Derived.Test.YtfbkoieodflcpaaDoorDecS
import Derived.Test.YtfbkoieodflcpaaDoorLexP
import Derived.Test.YtfbkoieodflcpaaDoorRowB
import Derived.Test.YtfbkoieodflcpaaDoorMapK
import Derived.Test.YtfbkoieodflcpaaDoorArgK
import Derived.Test.YtfbkoieodflcpaaDoorRefP
import Derived.Test.YtfbkoieodflcpaaDoorRefName
import Derived.Test.YtfbkoieodflcpaaDoorLexR
import Derived.Test.YtfbkoieodflcpaaDoorLexS
import Derived.Test.YtfbkoieodflcpaaDoorRefN
import Derived.Test.YtfbkoieodflcpaaDoorRefM
import Derived.Test.YtfbkoieodflcpaaDoorRefY
import Derived.Test.YtfbkoieodflcpaaDoorRefQ
import Derived.Test.YtfbkoieodflcpaaDoorRefZ
import Derived.Outline
import Derived.Deep.CutRange
import Derived.WalkSpells
import Derived.WalkLawsBesides
import Derived.StillTactics
import Derived.Laws.Pointers
import Derived.Deep.RegionHeld3
import Derived.Deep.QuietTactic
import Derived.BigQuiet
import Derived.RowKit3
import Derived.Lib.Hide
import Derived.Lib.OthersKept
import Derived.OwnWalk
import Derived.Lib.IndexLaws
import Derived.Lib.ItoaMem
import Derived.Lib.TrimByte
import Derived.Lib.SlTrimSet
import Derived.Lib.ParseIntB
import Derived.WalkKit
import Derived.ProofKit
import Derived.OpenShut
import Derived.Carry
import Derived.ChangeSame
import Derived.Deep.Draws
import Derived.Shelf.Strings.Builder1
import Derived.Shelf.Strings.Builder2
import Derived.Shelf.Strings.Trim
import Derived.Shelf.Small.Utf8
import Derived.Shelf.Small.Strs
import Derived.Shelf.Strings.BuilderF
import Derived.Shelf.Strings.BuilderK
import Derived.Shelf.Strconv.Itoa0
import Derived.Shelf.Strconv.Itoa1
import Derived.Shelf.LaysM
import Derived.Shelf.Strconv.Itoa2
import Derived.Shelf.Strconv.Itoa3
import Derived.Shelf.Strings.Search1
import Derived.Shelf.Unicode.DecodeSlow
import Derived.Lib.ItoaNum
import Derived.Maps.OwnSet
import Derived.Maps.AppendAt
namespace Go.Proofs.YtfbkoieodflcpaaDoor
open Go.RowKit

theorem part_info : (Tryd.prog.info? 81).map (fun i => (i.zero, i.size, i.bytes)) = some (some (.agg #[.int .i64 0, .int .i64 0, .bool false]), 3, 24) := by kernel_rfl
theorem plget {w : World} {g : Nat} {a b : Int} {m : Bool} {T : TypeId} (h : w.heap[g]? = some (.cells #[.int .i64 a, .int .i64 b, .bool m] T (0, 0))) : ∀ (j : Nat) (u : Value), (PL.cs ⟨a, b, m⟩)[j]? = some u → w.cell? ((⟨g, 0, none⟩ : Addr).add j) = some u := fun j u hj => by
  rw [show (⟨g, 0, none⟩ : Addr).add j = ⟨g, j, none⟩ by unfold Addr.add; split <;> simp [*], cell_of_row w g j _ T (0, 0) h, ← Array.getElem?_toList]
  exact hj
def lastP (st : List PL) : Option Int := match st with | [p] => if p.many then none else some p.depth | _ => none
theorem depth_last {ns : List NL} {st : List PL} (h1 : 1 ≤ ns.length) (h2 : ns.length ≤ 1024) (h : putP ns = some st) : depthP ns = lastP st := by
  unfold depthP lastP
  rw [if_neg (by omega), h]
  rcases st with _ | ⟨p, _ | ⟨q, r⟩⟩ <;> rfl
def OwnP5 (w : World) (B : Nat) (v : Value) (l : List PL) : Prop := w.ownsRow B 81 3 v l.length (plRow l)
theorem OwnP5.form {w : World} {B n : Nat} {v : Value} {st : List PL} (h : OwnP5 w B v st) (hn : st.length = n) : (n = 0 ∧ v = .slice none 0 0) ∨ ∃ g cap, v = .slice (some ⟨g, 0, none⟩) n cap ∧ B ≤ g ∧ g < w.heap.size ∧ n ≤ cap ∧ ∀ j, j < n * 3 → w.cell? ⟨g, j, none⟩ = (plRow st)[j]? := by
  subst hn
  have h0 := h
  obtain ⟨h1, h2⟩ := h
  rcases h2 with ⟨hv, hn⟩ | ⟨g, cap, cur, rfl, hg, hh, hle, hmx, hsz, htk⟩
  · exact Or.inl ⟨hn, hv⟩
  · exact Or.inr ⟨g, cap, rfl, hg, (Array.getElem?_eq_some_iff.1 hh).1, hle, fun j hj => World.ownsRow.cellAt h0 j hj⟩
theorem plRow_at (s t : List PL) (p q : Nat) (hp : s.length = p) (x : PL) (hx : t[q]? = some x) (i : Nat) (u : Value) (hu : x.cs[i]? = some u) : (plRow (s ++ t))[p * 3 + q * 3 + i]? = some u := by
  rw [plRow_app, List.getElem?_append_right (by rw [plRow_len]; omega), plRow_len, hp, show p * 3 + q * 3 + i - p * 3 = q * 3 + i by omega]
  exact flat_at (t.map PL.cs) (fun c hc => by obtain ⟨y, _, rfl⟩ := List.mem_map.1 hc; rfl) q x.cs (by rw [List.getElem?_map, hx]; rfl) i u hu
set_option maxRecDepth 100000 in
set_option maxHeartbeats 40000000 in
theorem refdepth (ns : List NL) (hlen : ns.length ≤ 9223372036854775807) (hok : ∀ n ∈ ns, n.ok) (w : World) (A : Option Addr) (cap : Nat) (hR : RdB w w.heap.size A 15 (ns.map NL.cs)) (o : Option Int) (h : depthP ns = o) : Calls Tryd.prog 20 #[.agg #[.slice A ns.length cap]] w fun e w' => e = .returned (.tuple #[.int .i64 (o.getD 0), .bool o.isSome]) ∧ Below w.heap.size w w' := by
  subst h
  obtain ⟨i0, hi, hz0, hz1, hz2⟩ := info_parts part_info
  have hR' := Lib.hid hR
  have hok' := Lib.hid hok
  have hno : ∀ j, putP (ns.take j) = none → depthP ns = none := fun j h => depth_no h
  have hno' := Lib.hid hno
  clear hR hok hno
  by_cases h1 : 1 ≤ ns.length
  case neg =>
    have hd : depthP ns = none := by unfold depthP; rw [if_pos (by omega)]
    rw [hd]
    have h2 : (ns.length : Int) < 1 := by omega
    go_enter Tryd.func20, Tryd.ntmps20
    go_wp2
    go_ret2
    exact ⟨rfl, by (repeat (first | (with_reducible exact Below.refl _ _) | (with_reducible refine Below.alloc ?_ (by first | omega | (dsimp only; omega) | (simp <;> omega)) _) | (with_reducible refine Below.setCell ?_ (by first | omega | (dsimp only; omega) | (simp <;> omega)) _) | (with_reducible refine Below.drew ?_) | (with_reducible refine below_drewN ?_ _) | (with_reducible refine Below.trans ?_ (Below.mono (by assumption) (by first | omega | (dsimp only; omega) | (simp <;> omega))))))⟩
  by_cases h2 : ns.length ≤ 1024
  case neg =>
    have hd : depthP ns = none := by unfold depthP; rw [if_pos (by omega)]
    rw [hd]
    have h3 : ¬ (ns.length : Int) < 1 := by omega
    have h4 : (ns.length : Int) > 1024 := by omega
    go_enter Tryd.func20, Tryd.ntmps20
    go_wp2
    go_ret2
    exact ⟨rfl, by (repeat (first | (with_reducible exact Below.refl _ _) | (with_reducible refine Below.alloc ?_ (by first | omega | (dsimp only; omega) | (simp <;> omega)) _) | (with_reducible refine Below.setCell ?_ (by first | omega | (dsimp only; omega) | (simp <;> omega)) _) | (with_reducible refine Below.drew ?_) | (with_reducible refine below_drewN ?_ _) | (with_reducible refine Below.trans ?_ (Below.mono (by assumption) (by first | omega | (dsimp only; omega) | (simp <;> omega))))))⟩
  have h3 : ¬ (ns.length : Int) < 1 := by omega
  have h4 : ¬ (ns.length : Int) > 1024 := by omega
  go_enter Tryd.func20, Tryd.ntmps20
  go_wp2_with fail
  go_loopw [4, 28] (fun l i wr => ∃ (j : Nat) (st : List PL), j ≤ ns.length ∧ i = .int .i64 (j : Int) ∧ putP (ns.take j) = some st ∧ PDeep j st ∧ st.length ≤ j ∧ OwnP5 wr w.heap.size l st ∧ Below w.heap.size w wr) (fun _ i _ => ns.length - (intOf i).toNat)
  case atStart => exact ⟨0, [], by omega, rfl, rfl, fun p hp => by simp at hp, by simp, World.ownsRow_nil _ _ _ _, by (repeat (first | (with_reducible exact Below.refl _ _) | (with_reducible refine Below.alloc ?_ (by first | omega | (dsimp only; omega) | (simp <;> omega)) _) | (with_reducible refine Below.setCell ?_ (by first | omega | (dsimp only; omega) | (simp <;> omega)) _) | (with_reducible refine Below.drew ?_) | (with_reducible refine below_drewN ?_ _) | (with_reducible refine Below.trans ?_ (Below.mono (by assumption) (by first | omega | (dsimp only; omega) | (simp <;> omega))))))⟩
  case round =>
    obtain ⟨j, st, hj, rfl, hput, hdep, hst, hown, hbr⟩ := hrel
    have hzr := hbr.size
    by_cases hlt : j < ns.length
    · obtain ⟨n, hn⟩ : ∃ n, ns[j]? = some n := ⟨_, List.getElem?_eq_getElem hlt⟩
      have hnok := hok'.out n (List.mem_of_getElem? hn)
      obtain ⟨ab, ao, hA2, hab, hcell⟩ := (hR'.out.below hbr) j n.cs (by rw [List.getElem?_map, hn]; rfl)
      obtain rfl : A = some ⟨ab, ao, none⟩ := hA2
      have hc0 : wr.cell? ⟨ab, ao + j * 15, none⟩ = some (.int .i64 n.kind) := hcell 0 _ rfl
      have hc1 : wr.cell? ⟨ab, ao + j * 15 + 1, none⟩ = some (.int .i64 n.v.t) := hcell 1 _ rfl
      have hc2 : wr.cell? ⟨ab, ao + j * 15 + 2, none⟩ = some (.int .i64 n.v.n) := hcell 2 _ rfl
      have hc3 : wr.cell? ⟨ab, ao + j * 15 + 3, none⟩ = some (.string n.v.s) := hcell 3 _ rfl
      have hc4 : wr.cell? ⟨ab, ao + j * 15 + 4, none⟩ = some (.bool n.v.b) := hcell 4 _ rfl
      have hc5 : wr.cell? ⟨ab, ao + j * 15 + 5, none⟩ = some (.int .i64 n.v.c) := hcell 5 _ rfl
      have hc6 : wr.cell? ⟨ab, ao + j * 15 + 6, none⟩ = some (.int .i64 n.r) := hcell 6 _ rfl
      have hc7 : wr.cell? ⟨ab, ao + j * 15 + 7, none⟩ = some (.int .i64 n.c) := hcell 7 _ rfl
      have hc8 : wr.cell? ⟨ab, ao + j * 15 + 8, none⟩ = some (.int .i64 n.t) := hcell 8 _ rfl
      have hc9 : wr.cell? ⟨ab, ao + j * 15 + 9, none⟩ = some (.int .i64 n.l) := hcell 9 _ rfl
      have hc10 : wr.cell? ⟨ab, ao + j * 15 + 10, none⟩ = some (.int .i64 n.b) := hcell 10 _ rfl
      have hc11 : wr.cell? ⟨ab, ao + j * 15 + 11, none⟩ = some (.int .i64 n.q) := hcell 11 _ rfl
      have hc12 : wr.cell? ⟨ab, ao + j * 15 + 12, none⟩ = some (.int .i64 n.op) := hcell 12 _ rfl
      have hc13 : wr.cell? ⟨ab, ao + j * 15 + 13, none⟩ = some (.string n.name) := hcell 13 _ rfl
      have hc14 : wr.cell? ⟨ab, ao + j * 15 + 14, none⟩ = some (.int .i64 n.args) := hcell 14 _ rfl
      have hput2 := putP_take ns j n hn
      rw [hput] at hput2
      have hput3 : putP (ns.take (j + 1)) = stepP st n := hput2
      have hput' := Lib.hid hput3
      have hput0 := Lib.hid hput
      clear hput hput2 hput3 hcell hn
      have habr : ab < wr.heap.size := by omega
      have hkl : (j : Int) < (ns.length : Int) := by omega
      have hne : ab ≠ wr.heap.size := by omega
      have hdep' := Lib.hid hdep
      clear hdep
      cases hm : n.may
      · go_wp2_with fail
        go_at_call 34
        refine (refmay n hnok _ hm _).mono ?_
        rintro e w1 ⟨rfl, hb⟩
        have hbr1 : Below w.heap.size w w1 := (hbr.alloc hzr (.cells #[.int .i64 n.kind, .int .i64 n.v.t, .int .i64 n.v.n, .string n.v.s, .bool n.v.b, .int .i64 n.v.c, .int .i64 n.r, .int .i64 n.c, .int .i64 n.t, .int .i64 n.l, .int .i64 n.b, .int .i64 n.q, .int .i64 n.op, .string n.name, .int .i64 n.args] 41)).trans (hb.mono (by simp; omega))
        go_wp2
        go_ret2
        exact ⟨by rw [hno'.out (j + 1) (by rw [hput'.out]; exact step_bad hm)]; rfl, hbr1⟩
      · go_wp2_with fail
        go_at_call 34
        refine (refmay n hnok _ hm _).mono ?_
        rintro e w1 ⟨rfl, hb⟩
        obtain ⟨gc, gf, gz⟩ := bkeep hb (wr.heap.size + 1) (by first | omega | (simp <;> omega))
        have hbr1 : Below w.heap.size w w1 := (hbr.alloc hzr (.cells #[.int .i64 n.kind, .int .i64 n.v.t, .int .i64 n.v.n, .string n.v.s, .bool n.v.b, .int .i64 n.v.c, .int .i64 n.r, .int .i64 n.c, .int .i64 n.t, .int .i64 n.l, .int .i64 n.b, .int .i64 n.q, .int .i64 n.op, .string n.name, .int .i64 n.args] 41)).trans (hb.mono (by simp; omega))
        have hz1w := hbr1.size
        have hown1 : OwnP5 w1 w.heap.size _ st := ownsRow_below (hown.alloc (.cells #[.int .i64 n.kind, .int .i64 n.v.t, .int .i64 n.v.n, .string n.v.s, .bool n.v.b, .int .i64 n.v.c, .int .i64 n.r, .int .i64 n.c, .int .i64 n.t, .int .i64 n.l, .int .i64 n.b, .int .i64 n.q, .int .i64 n.op, .string n.name, .int .i64 n.args] 41)) hb
        have hx0 : w1.cell? ⟨wr.heap.size, 0, none⟩ = some (.int .i64 n.kind) := by rw [gc _ _ (by omega)]; simp
        have hx12 : w1.cell? ⟨wr.heap.size, 12, none⟩ = some (.int .i64 n.op) := by rw [gc _ _ (by omega)]; simp
        have hx14 : w1.cell? ⟨wr.heap.size, 14, none⟩ = some (.int .i64 n.args) := by rw [gc _ _ (by omega)]; simp
        clear gc gf hb hown hbr habr hkl hne hnok hc0 hc1 hc2 hc3 hc4 hc5 hc6 hc7 hc8 hc9 hc10 hc11 hc12 hc13 hc14
        have hlt1 : wr.heap.size < w1.heap.size := by omega
        by_cases hk : n.kind = 3
        · as_aux_lemma =>
            have f0 : (n.kind == 3) = true := by simp <;> omega
            have hvg := heap_alloc_new w1 (.cells #[.int .i64 0, .int .i64 7, .bool true] 81)
            have hB5 : Below w.heap.size w (w1.alloc (.cells #[.int .i64 0, .int .i64 7, .bool true] 81)) := hbr1.alloc (by have := hbr1.size; omega) _
            have hsz5 : w.heap.size ≤ w1.heap.size := hbr1.size
            have hown4 := hown1.alloc (.cells #[.int .i64 0, .int .i64 7, .bool true] 81)
            go_wp2_with (at_builtin; go_loud (refine wpList_append_own_at _ rfl _ _ 79 rfl w.heap.size 81 i0 (.agg #[.int .i64 0, .int .i64 0, .bool false]) 3 24 Tryd.underlying79 hi hz0 hz1 hz2 rfl (by decide) _ _ _ rfl hown4 ⟨w1.heap.size, 0, none⟩ 1 1 (PL.cs ⟨0, 7, true⟩) rfl rfl (plget hvg) (by simp [PL.cs, Value.oneCell']) (by unfold maxLen; omega) (by omega) (by simp; omega) ?_); intro v' w5 hown5 hgrow5 _ _)
            clear hvg
            have hbr5 : Below w.heap.size w w5 := hB5.grown hgrow5 (by simp; omega) (fun q hq => (hown4.lt q hq).1)
            clear hgrow5
            go_roundw
            case rel => exact ⟨j + 1, st ++ [⟨0, 7, true⟩], by omega, by go_num, by rw [hput'.out]; exact step_rect hm hk, (hdep'.out.mono (by omega)).app (by decide) (by show (0 : Int) ≤ _; omega), by simp <;> omega, by unfold OwnP5; rw [plRow_app, plRow_one, List.length_append]; exact hown5, hbr5⟩
            case measure => simp [intOf]; omega
        have hk3 : n.kind ≠ 3 := hk
        clear hk
        by_cases hk : n.kind = 4
        · have hop := op_of hm hk
          have fk3 : (n.kind == 3) = false := by simp <;> omega
          have fk4 : (n.kind == 4) = true := by simp <;> omega
          by_cases ho : n.op = 1 ∨ n.op = 2
          · have fo : (n.op == 1) = true ∨ ((n.op == 1) = false ∧ (n.op == 2) = true) := by rcases ho with h | h <;> simp [h]
            have ho' := Lib.hid ho
            clear ho
            rcases st.eq_nil_or_concat with rfl | ⟨s, b, rfl⟩
            · rcases hown1.form rfl with ⟨_, rfl⟩ | ⟨g, cap', rfl, hBg, hgw, hle, hrow⟩
              all_goals rcases fo with fo | ⟨fo, fo2⟩
              all_goals go_wp2
              all_goals go_ret2
              all_goals exact ⟨by rw [hno'.out (j + 1) (by rw [hput'.out]; exact step_one_no hm hk)]; rfl, by (repeat (first | (with_reducible exact Below.refl _ _) | (with_reducible refine Below.alloc ?_ (by first | omega | (dsimp only; omega) | (simp <;> omega)) _) | (with_reducible refine Below.setCell ?_ (by first | omega | (dsimp only; omega) | (simp <;> omega)) _) | (with_reducible refine Below.drew ?_) | (with_reducible refine below_drewN ?_ _) | (with_reducible refine Below.trans ?_ (Below.mono (by assumption) (by first | omega | (dsimp only; omega) | (simp <;> omega))))))⟩
            · obtain ⟨p, hp⟩ : ∃ p, s.length = p := ⟨_, rfl⟩
              rw [List.concat_eq_append] at *
              have hst2 : p + 1 ≤ j := by have := hst; rw [List.length_append, hp] at this; exact this
              rcases fo with fo | ⟨fo, fo2⟩
              · as_aux_lemma =>
                  rcases hown1.form (n := p + 1) (by simp [hp]) with ⟨h0, _⟩ | ⟨g, cap', rfl, hBg, hgw, hle, hrow⟩
                  · omega
                  have hqb0 : w1.cell? ⟨g, p * 3, none⟩ = some (.int .i64 b.depth) := by
                    rw [hrow _ (by omega)]
                    have := plRow_at s [b] p 0 hp b rfl 0 _ rfl
                    rw [← this]; first | done | rfl | (congr 1; omega) | (congr 1 <;> omega)
                  have hqb1 : w1.cell? ⟨g, p * 3 + 1, none⟩ = some (.int .i64 b.binds) := by
                    rw [hrow _ (by omega)]
                    have := plRow_at s [b] p 0 hp b rfl 1 _ rfl
                    rw [← this]; first | done | rfl | (congr 1; omega) | (congr 1 <;> omega)
                  have hqb2 : w1.cell? ⟨g, p * 3 + 2, none⟩ = some (.bool b.many) := by
                    rw [hrow _ (by omega)]
                    have := plRow_at s [b] p 0 hp b rfl 2 _ rfl
                    rw [← this]; first | done | rfl | (congr 1; omega) | (congr 1 <;> omega)
                  have hwk : IntKind.i64.wrap ((p : Int) + 1 - 1) = (p : Int) := by rw [IntWalk.i64_in _ (by omega)]; omega
                  have hnl : ¬ ((p : Int) + 1 < 1) := by omega
                  have hwp : IntKind.i64.wrap (p : Int) = (p : Int) := IntWalk.i64_in _ (by omega)
                  have hi0 : (0 : Int) ≤ (p : Int) := by omega
                  have hi1 : (p : Int) < (p : Int) + 1 := by omega
                  clear hrow
                  have hgne : g ≠ w1.heap.size := by omega
                  have hgne2 : g ≠ w1.heap.size + 1 := by omega
                  go_upto_region 19 with fail
                  go_cut [8, 9] from 29 to 141 (fun x y wc => ∃ P Q, x = .pointer (some ⟨P, 0, none⟩) ∧ y = .pointer (some ⟨Q, 0, none⟩) ∧ P < wc.heap.size ∧ Q < wc.heap.size ∧ wc.cell? ⟨P, 0, none⟩ = some (.int .i64 b.depth) ∧ wc.cell? ⟨P, 1, none⟩ = some (.int .i64 b.binds) ∧ wc.cell? ⟨P, 2, none⟩ = some (.bool b.many) ∧ wc.cell? ⟨Q, 0, none⟩ = some (.int .i64 b.depth) ∧ wc.cell? ⟨Q, 1, none⟩ = some (.int .i64 b.binds) ∧ wc.cell? ⟨Q, 2, none⟩ = some (.bool b.many) ∧ Below w1.heap.size w1 wc)
                  case first =>
                    go_region_held3 (fun w' => w'.cell? ⟨g, p * 3, none⟩ = some (.int .i64 b.depth) ∧ w'.cell? ⟨g, p * 3 + 1, none⟩ = some (.int .i64 b.binds) ∧ w'.cell? ⟨g, p * 3 + 2, none⟩ = some (.bool b.many) ∧ Below w.heap.size w w' ∧ w1.heap.size ≤ w'.heap.size)
                      (first | ((go_split_ands; refine ⟨?_, ?_, ?_, ?_, ?_⟩ <;> first | (rw [hb.cell (by dsimp only; omega)]; assumption) | exact Below.trans (by assumption) (hb.mono (by omega)) | (have := hb.size; omega))) | ((refine ⟨?_, ?_, ?_, ?_, ?_⟩ <;> first | (simp [go_sem, *]; done) | ((repeat (first | (with_reducible exact Below.refl _ _) | (with_reducible refine Below.alloc ?_ (by first | omega | (dsimp only; omega) | (simp <;> omega)) _) | (with_reducible refine Below.setCell ?_ (by first | omega | (dsimp only; omega) | (simp <;> omega)) _) | (with_reducible refine Below.drew ?_) | (with_reducible refine below_drewN ?_ _) | (with_reducible refine Below.trans ?_ (Below.mono (by assumption) (by first | omega | (dsimp only; omega) | (simp <;> omega)))))); done) | (simp; omega))))
                      (first | fail)
                    all_goals (go_wp2; go_meet; case rel => exact ⟨_, _, rfl, rfl, by first | omega | (simp; done) | (simp; omega), by first | omega | (simp; done) | (simp; omega), by simp [go_sem], by simp [go_sem], by simp [go_sem], by simp [go_sem], by simp [go_sem], by simp [go_sem], by (repeat (first | (with_reducible exact Below.refl _ _) | (with_reducible refine Below.alloc ?_ (by first | omega | (dsimp only; omega) | (simp <;> omega)) _) | (with_reducible refine Below.setCell ?_ (by first | omega | (dsimp only; omega) | (simp <;> omega)) _) | (with_reducible refine Below.drew ?_) | (with_reducible refine below_drewN ?_ _) | (with_reducible refine Below.trans ?_ (Below.mono (by assumption) (by first | omega | (dsimp only; omega) | (simp <;> omega))))))⟩)
                  case rest =>
                    obtain ⟨P, Q, rfl, rfl, hPl, hQl, cP0, cP1, cP2, cQ0, cQ1, cQ2, hbc⟩ := hcut
                    have hzc := hbc.size
                    have hbrc : Below w.heap.size w wc := hbr1.trans (hbc.mono hz1w)
                    have hownc : OwnP5 wc w.heap.size (.slice (some ⟨g, 0, none⟩) (p + 1) cap') (s ++ [b]) := ownsRow_below hown1 hbc
                    have hxc : wc.cell? ⟨wr.heap.size, 12, none⟩ = some (.int .i64 n.op) := (hbc.cell hlt1).trans hx12
                    cases hmb : b.many
                    case true =>
                      rw [hmb] at cP2 cQ2
                      go_wp2
                      go_ret2
                      exact ⟨by rw [hno'.out (j + 1) (by rw [hput'.out]; exact (step_one hm hk ho'.out).trans (by simp [hmb]))]; rfl, by exact hbrc⟩
                    rw [hmb] at cP2 cQ2
                    have hla := hdep'.out b (by simp)
                    have hlb := hdep'.out b (by simp)
                    obtain ⟨da, hda⟩ : ∃ d, b.inside (levelI n.op) = d := ⟨_, rfl⟩
                    have hia := inside_le hla (levelI n.op)
                    rw [hda] at hia
                    have hlev : 1 ≤ levelI n.op ∧ levelI n.op ≤ 6 := by unfold levelI; (repeat' split) <;> omega
                    have hdaH := Lib.hid hda
                    have hmH := Lib.hid hmb
                    have CI : ∀ w0 : World, Calls Tryd.prog 36 #[.agg #[.int .i64 b.depth, .int .i64 b.binds, .bool false], .int .i64 (levelI n.op)] w0 fun e w' => e = .returned (.int .i64 da) ∧ Below w0.heap.size w0 w' := fun w0 => by
                      have h := rinside b (levelI n.op) da hla.1 (by omega) hda w0
                      rw [hmb] at h
                      exact h
                    have CIH := Lib.hid CI
                    clear hda hmb CI
                    go_wp2_with fail
                    go_at_call 35
                    refine (rlevel n.op (by omega) (by omega) _).mono ?_
                    rintro e w2 ⟨rfl, rfl⟩
                    go_wp2_with fail
                    go_at_call 36
                    refine (CIH.out _).mono ?_
                    rintro e w2 ⟨rfl, hb2⟩
                    have hbr2 : Below w.heap.size w w2 := hbrc.trans (hb2.mono hbrc.size)
                    have hown2 : OwnP5 w2 w.heap.size (.slice (some ⟨g, 0, none⟩) (p + 1) cap') (s ++ [b]) := ownsRow_below hownc hb2
                    have hownz : w2.ownsRow w.heap.size 81 3 (.slice (some ⟨g, 0, none⟩) (p + 1) cap') (p + 1) (plRow (s ++ [b])) := by
                      have h := hown2
                      unfold OwnP5 at h
                      rwa [show (s ++ [b]).length = p + 1 from by rw [List.length_append, hp]; rfl] at h
                    have hcut := ownsRow_cut (ys := plRow s) (zs := plRow [b]) (m := p) hownz (plRow_app s [b]) (by rw [plRow_len, hp]) (by omega) (fun e => by cases e)
                    have hpw : s.length = p := hp
                    have hvg := heap_alloc_new w2 (.cells #[.int .i64 da, .int .i64 (levelI n.op), .bool false] 81)
                    have hB5 : Below w.heap.size w (w2.alloc (.cells #[.int .i64 da, .int .i64 (levelI n.op), .bool false] 81)) := hbr2.alloc (by have := hbr2.size; omega) _
                    have hsz5 : w.heap.size ≤ w2.heap.size := hbr2.size
                    have hown4 := hcut.alloc (.cells #[.int .i64 da, .int .i64 (levelI n.op), .bool false] 81)
                    go_wp2_with (at_builtin; go_loud (refine wpList_append_own_at _ rfl _ _ 79 rfl w.heap.size 81 i0 (.agg #[.int .i64 0, .int .i64 0, .bool false]) 3 24 Tryd.underlying79 hi hz0 hz1 hz2 rfl (by decide) _ _ _ rfl hown4 ⟨w2.heap.size, 0, none⟩ 1 1 (PL.cs ⟨da, (levelI n.op), false⟩) rfl rfl (plget hvg) (by simp [PL.cs, Value.oneCell']) (by unfold maxLen; omega) (by omega) (by simp; omega) ?_); intro v' w5 hown5 hgrow5 _ _)
                    clear hvg
                    have hbr5 : Below w.heap.size w w5 := hB5.grown hgrow5 (by simp; omega) (fun q hq => (hown4.lt q hq).1)
                    clear hgrow5
                    go_roundw
                    case rel => exact ⟨j + 1, s ++ [⟨da, levelI n.op, false⟩], by omega, by go_num, by rw [hput'.out]; exact (step_one hm hk ho'.out).trans (by simp [hmH.out, hdaH.out]), (hdep'.out.left.mono (by omega)).app (by show (0 : Int) ≤ da; omega) (by show da ≤ _; omega), by simp <;> omega, by unfold OwnP5; rw [plRow_app, plRow_one, List.length_append, hp]; exact hown5, hbr5⟩
                    case measure => simp [intOf]; omega
              · as_aux_lemma =>
                  rcases hown1.form (n := p + 1) (by simp [hp]) with ⟨h0, _⟩ | ⟨g, cap', rfl, hBg, hgw, hle, hrow⟩
                  · omega
                  have hqb0 : w1.cell? ⟨g, p * 3, none⟩ = some (.int .i64 b.depth) := by
                    rw [hrow _ (by omega)]
                    have := plRow_at s [b] p 0 hp b rfl 0 _ rfl
                    rw [← this]; first | done | rfl | (congr 1; omega) | (congr 1 <;> omega)
                  have hqb1 : w1.cell? ⟨g, p * 3 + 1, none⟩ = some (.int .i64 b.binds) := by
                    rw [hrow _ (by omega)]
                    have := plRow_at s [b] p 0 hp b rfl 1 _ rfl
                    rw [← this]; first | done | rfl | (congr 1; omega) | (congr 1 <;> omega)
                  have hqb2 : w1.cell? ⟨g, p * 3 + 2, none⟩ = some (.bool b.many) := by
                    rw [hrow _ (by omega)]
                    have := plRow_at s [b] p 0 hp b rfl 2 _ rfl
                    rw [← this]; first | done | rfl | (congr 1; omega) | (congr 1 <;> omega)
                  have hwk : IntKind.i64.wrap ((p : Int) + 1 - 1) = (p : Int) := by rw [IntWalk.i64_in _ (by omega)]; omega
                  have hnl : ¬ ((p : Int) + 1 < 1) := by omega
                  have hwp : IntKind.i64.wrap (p : Int) = (p : Int) := IntWalk.i64_in _ (by omega)
                  have hi0 : (0 : Int) ≤ (p : Int) := by omega
                  have hi1 : (p : Int) < (p : Int) + 1 := by omega
                  clear hrow
                  have hgne : g ≠ w1.heap.size := by omega
                  have hgne2 : g ≠ w1.heap.size + 1 := by omega
                  go_upto_region 19 with fail
                  go_cut [8, 9] from 29 to 141 (fun x y wc => ∃ P Q, x = .pointer (some ⟨P, 0, none⟩) ∧ y = .pointer (some ⟨Q, 0, none⟩) ∧ P < wc.heap.size ∧ Q < wc.heap.size ∧ wc.cell? ⟨P, 0, none⟩ = some (.int .i64 b.depth) ∧ wc.cell? ⟨P, 1, none⟩ = some (.int .i64 b.binds) ∧ wc.cell? ⟨P, 2, none⟩ = some (.bool b.many) ∧ wc.cell? ⟨Q, 0, none⟩ = some (.int .i64 b.depth) ∧ wc.cell? ⟨Q, 1, none⟩ = some (.int .i64 b.binds) ∧ wc.cell? ⟨Q, 2, none⟩ = some (.bool b.many) ∧ Below w1.heap.size w1 wc)
                  case first =>
                    go_region_held3 (fun w' => w'.cell? ⟨g, p * 3, none⟩ = some (.int .i64 b.depth) ∧ w'.cell? ⟨g, p * 3 + 1, none⟩ = some (.int .i64 b.binds) ∧ w'.cell? ⟨g, p * 3 + 2, none⟩ = some (.bool b.many) ∧ Below w.heap.size w w' ∧ w1.heap.size ≤ w'.heap.size)
                      (first | ((go_split_ands; refine ⟨?_, ?_, ?_, ?_, ?_⟩ <;> first | (rw [hb.cell (by dsimp only; omega)]; assumption) | exact Below.trans (by assumption) (hb.mono (by omega)) | (have := hb.size; omega))) | ((refine ⟨?_, ?_, ?_, ?_, ?_⟩ <;> first | (simp [go_sem, *]; done) | ((repeat (first | (with_reducible exact Below.refl _ _) | (with_reducible refine Below.alloc ?_ (by first | omega | (dsimp only; omega) | (simp <;> omega)) _) | (with_reducible refine Below.setCell ?_ (by first | omega | (dsimp only; omega) | (simp <;> omega)) _) | (with_reducible refine Below.drew ?_) | (with_reducible refine below_drewN ?_ _) | (with_reducible refine Below.trans ?_ (Below.mono (by assumption) (by first | omega | (dsimp only; omega) | (simp <;> omega)))))); done) | (simp; omega))))
                      (first | fail)
                    all_goals (go_wp2; go_meet; case rel => exact ⟨_, _, rfl, rfl, by first | omega | (simp; done) | (simp; omega), by first | omega | (simp; done) | (simp; omega), by simp [go_sem], by simp [go_sem], by simp [go_sem], by simp [go_sem], by simp [go_sem], by simp [go_sem], by (repeat (first | (with_reducible exact Below.refl _ _) | (with_reducible refine Below.alloc ?_ (by first | omega | (dsimp only; omega) | (simp <;> omega)) _) | (with_reducible refine Below.setCell ?_ (by first | omega | (dsimp only; omega) | (simp <;> omega)) _) | (with_reducible refine Below.drew ?_) | (with_reducible refine below_drewN ?_ _) | (with_reducible refine Below.trans ?_ (Below.mono (by assumption) (by first | omega | (dsimp only; omega) | (simp <;> omega))))))⟩)
                  case rest =>
                    obtain ⟨P, Q, rfl, rfl, hPl, hQl, cP0, cP1, cP2, cQ0, cQ1, cQ2, hbc⟩ := hcut
                    have hzc := hbc.size
                    have hbrc : Below w.heap.size w wc := hbr1.trans (hbc.mono hz1w)
                    have hownc : OwnP5 wc w.heap.size (.slice (some ⟨g, 0, none⟩) (p + 1) cap') (s ++ [b]) := ownsRow_below hown1 hbc
                    have hxc : wc.cell? ⟨wr.heap.size, 12, none⟩ = some (.int .i64 n.op) := (hbc.cell hlt1).trans hx12
                    cases hmb : b.many
                    case true =>
                      rw [hmb] at cP2 cQ2
                      go_wp2
                      go_ret2
                      exact ⟨by rw [hno'.out (j + 1) (by rw [hput'.out]; exact (step_one hm hk ho'.out).trans (by simp [hmb]))]; rfl, by exact hbrc⟩
                    rw [hmb] at cP2 cQ2
                    have hla := hdep'.out b (by simp)
                    have hlb := hdep'.out b (by simp)
                    obtain ⟨da, hda⟩ : ∃ d, b.inside (levelI n.op) = d := ⟨_, rfl⟩
                    have hia := inside_le hla (levelI n.op)
                    rw [hda] at hia
                    have hlev : 1 ≤ levelI n.op ∧ levelI n.op ≤ 6 := by unfold levelI; (repeat' split) <;> omega
                    have hdaH := Lib.hid hda
                    have hmH := Lib.hid hmb
                    have CI : ∀ w0 : World, Calls Tryd.prog 36 #[.agg #[.int .i64 b.depth, .int .i64 b.binds, .bool false], .int .i64 (levelI n.op)] w0 fun e w' => e = .returned (.int .i64 da) ∧ Below w0.heap.size w0 w' := fun w0 => by
                      have h := rinside b (levelI n.op) da hla.1 (by omega) hda w0
                      rw [hmb] at h
                      exact h
                    have CIH := Lib.hid CI
                    clear hda hmb CI
                    go_wp2_with fail
                    go_at_call 35
                    refine (rlevel n.op (by omega) (by omega) _).mono ?_
                    rintro e w2 ⟨rfl, rfl⟩
                    go_wp2_with fail
                    go_at_call 36
                    refine (CIH.out _).mono ?_
                    rintro e w2 ⟨rfl, hb2⟩
                    have hbr2 : Below w.heap.size w w2 := hbrc.trans (hb2.mono hbrc.size)
                    have hown2 : OwnP5 w2 w.heap.size (.slice (some ⟨g, 0, none⟩) (p + 1) cap') (s ++ [b]) := ownsRow_below hownc hb2
                    have hownz : w2.ownsRow w.heap.size 81 3 (.slice (some ⟨g, 0, none⟩) (p + 1) cap') (p + 1) (plRow (s ++ [b])) := by
                      have h := hown2
                      unfold OwnP5 at h
                      rwa [show (s ++ [b]).length = p + 1 from by rw [List.length_append, hp]; rfl] at h
                    have hcut := ownsRow_cut (ys := plRow s) (zs := plRow [b]) (m := p) hownz (plRow_app s [b]) (by rw [plRow_len, hp]) (by omega) (fun e => by cases e)
                    have hpw : s.length = p := hp
                    have hvg := heap_alloc_new w2 (.cells #[.int .i64 da, .int .i64 (levelI n.op), .bool false] 81)
                    have hB5 : Below w.heap.size w (w2.alloc (.cells #[.int .i64 da, .int .i64 (levelI n.op), .bool false] 81)) := hbr2.alloc (by have := hbr2.size; omega) _
                    have hsz5 : w.heap.size ≤ w2.heap.size := hbr2.size
                    have hown4 := hcut.alloc (.cells #[.int .i64 da, .int .i64 (levelI n.op), .bool false] 81)
                    go_wp2_with (at_builtin; go_loud (refine wpList_append_own_at _ rfl _ _ 79 rfl w.heap.size 81 i0 (.agg #[.int .i64 0, .int .i64 0, .bool false]) 3 24 Tryd.underlying79 hi hz0 hz1 hz2 rfl (by decide) _ _ _ rfl hown4 ⟨w2.heap.size, 0, none⟩ 1 1 (PL.cs ⟨da, (levelI n.op), false⟩) rfl rfl (plget hvg) (by simp [PL.cs, Value.oneCell']) (by unfold maxLen; omega) (by omega) (by simp; omega) ?_); intro v' w5 hown5 hgrow5 _ _)
                    clear hvg
                    have hbr5 : Below w.heap.size w w5 := hB5.grown hgrow5 (by simp; omega) (fun q hq => (hown4.lt q hq).1)
                    clear hgrow5
                    go_roundw
                    case rel => exact ⟨j + 1, s ++ [⟨da, levelI n.op, false⟩], by omega, by go_num, by rw [hput'.out]; exact (step_one hm hk ho'.out).trans (by simp [hmH.out, hdaH.out]), (hdep'.out.left.mono (by omega)).app (by show (0 : Int) ≤ da; omega) (by show da ≤ _; omega), by simp <;> omega, by unfold OwnP5; rw [plRow_app, plRow_one, List.length_append, hp]; exact hown5, hbr5⟩
                    case measure => simp [intOf]; omega
          · have fo : (n.op == 1) = false := by simp <;> omega
            have fo2 : (n.op == 2) = false := by simp <;> omega
            have ho' := Lib.hid ho
            clear ho
            rcases two_last st with rfl | ⟨a, rfl⟩ | ⟨s, a, b, rfl⟩
            · rcases hown1.form rfl with ⟨_, rfl⟩ | ⟨g, cap', rfl, hBg, hgw, hle, hrow⟩
              all_goals go_wp2
              all_goals go_ret2
              all_goals exact ⟨by rw [hno'.out (j + 1) (by rw [hput'.out]; exact step_two_no0 hm hk ho'.out)]; rfl, by (repeat (first | (with_reducible exact Below.refl _ _) | (with_reducible refine Below.alloc ?_ (by first | omega | (dsimp only; omega) | (simp <;> omega)) _) | (with_reducible refine Below.setCell ?_ (by first | omega | (dsimp only; omega) | (simp <;> omega)) _) | (with_reducible refine Below.drew ?_) | (with_reducible refine below_drewN ?_ _) | (with_reducible refine Below.trans ?_ (Below.mono (by assumption) (by first | omega | (dsimp only; omega) | (simp <;> omega))))))⟩
            · rcases hown1.form rfl with ⟨h0, _⟩ | ⟨g, cap', rfl, hBg, hgw, hle, hrow⟩
              · simp at h0
              go_wp2
              go_ret2
              exact ⟨by rw [hno'.out (j + 1) (by rw [hput'.out]; exact step_two_no hm hk ho'.out)]; rfl, by (repeat (first | (with_reducible exact Below.refl _ _) | (with_reducible refine Below.alloc ?_ (by first | omega | (dsimp only; omega) | (simp <;> omega)) _) | (with_reducible refine Below.setCell ?_ (by first | omega | (dsimp only; omega) | (simp <;> omega)) _) | (with_reducible refine Below.drew ?_) | (with_reducible refine below_drewN ?_ _) | (with_reducible refine Below.trans ?_ (Below.mono (by assumption) (by first | omega | (dsimp only; omega) | (simp <;> omega))))))⟩
            · obtain ⟨p, hp⟩ : ∃ p, s.length = p := ⟨_, rfl⟩
              have hst2 : p + 2 ≤ j := by have := hst; rw [List.length_append, hp] at this; exact this
              as_aux_lemma =>
                rcases hown1.form (n := p + 2) (by simp [hp]) with ⟨h0, _⟩ | ⟨g, cap', rfl, hBg, hgw, hle, hrow⟩
                · omega
                have hqa0 : w1.cell? ⟨g, p * 3, none⟩ = some (.int .i64 a.depth) := by
                  rw [hrow _ (by omega)]
                  have := plRow_at s [a, b] p 0 hp a rfl 0 _ rfl
                  rw [← this]; first | done | rfl | (congr 1; omega) | (congr 1 <;> omega)
                have hqa1 : w1.cell? ⟨g, p * 3 + 1, none⟩ = some (.int .i64 a.binds) := by
                  rw [hrow _ (by omega)]
                  have := plRow_at s [a, b] p 0 hp a rfl 1 _ rfl
                  rw [← this]; first | done | rfl | (congr 1; omega) | (congr 1 <;> omega)
                have hqa2 : w1.cell? ⟨g, p * 3 + 2, none⟩ = some (.bool a.many) := by
                  rw [hrow _ (by omega)]
                  have := plRow_at s [a, b] p 0 hp a rfl 2 _ rfl
                  rw [← this]; first | done | rfl | (congr 1; omega) | (congr 1 <;> omega)
                have hqb0 : w1.cell? ⟨g, (p + 1) * 3, none⟩ = some (.int .i64 b.depth) := by
                  rw [hrow _ (by omega)]
                  have := plRow_at s [a, b] p 1 hp b rfl 0 _ rfl
                  rw [← this]; first | done | rfl | (congr 1; omega) | (congr 1 <;> omega)
                have hqb1 : w1.cell? ⟨g, (p + 1) * 3 + 1, none⟩ = some (.int .i64 b.binds) := by
                  rw [hrow _ (by omega)]
                  have := plRow_at s [a, b] p 1 hp b rfl 1 _ rfl
                  rw [← this]; first | done | rfl | (congr 1; omega) | (congr 1 <;> omega)
                have hqb2 : w1.cell? ⟨g, (p + 1) * 3 + 2, none⟩ = some (.bool b.many) := by
                  rw [hrow _ (by omega)]
                  have := plRow_at s [a, b] p 1 hp b rfl 2 _ rfl
                  rw [← this]; first | done | rfl | (congr 1; omega) | (congr 1 <;> omega)
                have hwk : IntKind.i64.wrap ((p : Int) + 2 - 2) = (p : Int) := by rw [IntWalk.i64_in _ (by omega)]; omega
                have hwl : IntKind.i64.wrap ((p : Int) + 2 - 1) = (p : Int) + 1 := by rw [IntWalk.i64_in _ (by omega)]; omega
                have hnl : ¬ ((p : Int) + 2 < 2) := by omega
                have hwp : IntKind.i64.wrap (p : Int) = (p : Int) := IntWalk.i64_in _ (by omega)
                have hwp1 : IntKind.i64.wrap ((p : Int) + 1) = (p : Int) + 1 := IntWalk.i64_in _ (by omega)
                have hi0 : (0 : Int) ≤ (p : Int) := by omega
                have hi1 : (p : Int) < (p : Int) + 2 := by omega
                have hi2 : (0 : Int) ≤ (p : Int) + 1 := by omega
                have hi3 : (p : Int) + 1 < (p : Int) + 2 := by omega
                clear hrow
                have hgne : g ≠ w1.heap.size := by omega
                have hgne2 : g ≠ w1.heap.size + 1 := by omega
                go_upto_region 19 with fail
                go_cut [8, 9] from 29 to 141 (fun x y wc => ∃ P Q, x = .pointer (some ⟨P, 0, none⟩) ∧ y = .pointer (some ⟨Q, 0, none⟩) ∧ P < wc.heap.size ∧ Q < wc.heap.size ∧ wc.cell? ⟨P, 0, none⟩ = some (.int .i64 a.depth) ∧ wc.cell? ⟨P, 1, none⟩ = some (.int .i64 a.binds) ∧ wc.cell? ⟨P, 2, none⟩ = some (.bool a.many) ∧ wc.cell? ⟨Q, 0, none⟩ = some (.int .i64 b.depth) ∧ wc.cell? ⟨Q, 1, none⟩ = some (.int .i64 b.binds) ∧ wc.cell? ⟨Q, 2, none⟩ = some (.bool b.many) ∧ Below w1.heap.size w1 wc)
                case first =>
                  go_region_held3 (fun w' => w'.cell? ⟨g, p * 3, none⟩ = some (.int .i64 a.depth) ∧ w'.cell? ⟨g, p * 3 + 1, none⟩ = some (.int .i64 a.binds) ∧ w'.cell? ⟨g, p * 3 + 2, none⟩ = some (.bool a.many) ∧ w'.cell? ⟨g, (p + 1) * 3, none⟩ = some (.int .i64 b.depth) ∧ w'.cell? ⟨g, (p + 1) * 3 + 1, none⟩ = some (.int .i64 b.binds) ∧ w'.cell? ⟨g, (p + 1) * 3 + 2, none⟩ = some (.bool b.many) ∧ Below w.heap.size w w' ∧ w1.heap.size ≤ w'.heap.size)
                    (first | ((go_split_ands; refine ⟨?_, ?_, ?_, ?_, ?_, ?_, ?_, ?_⟩ <;> first | (rw [hb.cell (by dsimp only; omega)]; assumption) | exact Below.trans (by assumption) (hb.mono (by omega)) | (have := hb.size; omega))) | ((refine ⟨?_, ?_, ?_, ?_, ?_, ?_, ?_, ?_⟩ <;> first | (simp [go_sem, *]; done) | ((repeat (first | (with_reducible exact Below.refl _ _) | (with_reducible refine Below.alloc ?_ (by first | omega | (dsimp only; omega) | (simp <;> omega)) _) | (with_reducible refine Below.setCell ?_ (by first | omega | (dsimp only; omega) | (simp <;> omega)) _) | (with_reducible refine Below.drew ?_) | (with_reducible refine below_drewN ?_ _) | (with_reducible refine Below.trans ?_ (Below.mono (by assumption) (by first | omega | (dsimp only; omega) | (simp <;> omega)))))); done) | (simp; omega))))
                    (first | fail)
                  all_goals (go_wp2; go_meet; case rel => exact ⟨_, _, rfl, rfl, by first | omega | (simp; done) | (simp; omega), by first | omega | (simp; done) | (simp; omega), by simp [go_sem], by simp [go_sem], by simp [go_sem], by simp [go_sem], by simp [go_sem], by simp [go_sem], by (repeat (first | (with_reducible exact Below.refl _ _) | (with_reducible refine Below.alloc ?_ (by first | omega | (dsimp only; omega) | (simp <;> omega)) _) | (with_reducible refine Below.setCell ?_ (by first | omega | (dsimp only; omega) | (simp <;> omega)) _) | (with_reducible refine Below.drew ?_) | (with_reducible refine below_drewN ?_ _) | (with_reducible refine Below.trans ?_ (Below.mono (by assumption) (by first | omega | (dsimp only; omega) | (simp <;> omega))))))⟩)
                case rest =>
                  obtain ⟨P, Q, rfl, rfl, hPl, hQl, cP0, cP1, cP2, cQ0, cQ1, cQ2, hbc⟩ := hcut
                  have hzc := hbc.size
                  have hbrc : Below w.heap.size w wc := hbr1.trans (hbc.mono hz1w)
                  have hownc : OwnP5 wc w.heap.size (.slice (some ⟨g, 0, none⟩) (p + 2) cap') (s ++ [a, b]) := ownsRow_below hown1 hbc
                  have hxc : wc.cell? ⟨wr.heap.size, 12, none⟩ = some (.int .i64 n.op) := (hbc.cell hlt1).trans hx12
                  cases hma : a.many
                  case true =>
                    rw [hma] at cP2
                    go_wp2
                    go_ret2
                    exact ⟨by rw [hno'.out (j + 1) (by rw [hput'.out]; exact (step_two hm hk ho'.out).trans (by simp [hma]))]; rfl, by exact hbrc⟩
                  rw [hma] at cP2
                  cases hmb : b.many
                  case true =>
                    rw [hmb] at cQ2
                    go_wp2
                    go_ret2
                    exact ⟨by rw [hno'.out (j + 1) (by rw [hput'.out]; exact (step_two hm hk ho'.out).trans (by simp [hmb]))]; rfl, by exact hbrc⟩
                  rw [hmb] at cQ2
                  have hla := hdep'.out a (by simp)
                  have hlb := hdep'.out b (by simp)
                  obtain ⟨da, hda⟩ : ∃ d, a.inside (levelI n.op) = d := ⟨_, rfl⟩
                  have hia := inside_le hla (levelI n.op)
                  rw [hda] at hia
                  have hlev : 1 ≤ levelI n.op ∧ levelI n.op ≤ 6 := by unfold levelI; (repeat' split) <;> omega
                  have hdaH := Lib.hid hda
                  have hmH := Lib.hid (And.intro hma hmb)
                  have CI : ∀ w0 : World, Calls Tryd.prog 36 #[.agg #[.int .i64 a.depth, .int .i64 a.binds, .bool false], .int .i64 (levelI n.op)] w0 fun e w' => e = .returned (.int .i64 da) ∧ Below w0.heap.size w0 w' := fun w0 => by
                    have h := rinside a (levelI n.op) da hla.1 (by omega) hda w0
                    rw [hma] at h
                    exact h
                  have CIH := Lib.hid CI
                  clear hda CI
                  go_wp2_with fail
                  go_at_call 35
                  refine (rlevel n.op (by omega) (by omega) _).mono ?_
                  rintro e w2 ⟨rfl, rfl⟩
                  go_wp2_with fail
                  go_at_call 36
                  refine (CIH.out _).mono ?_
                  rintro e w2 ⟨rfl, hb2⟩
                  have hbr2 : Below w.heap.size w w2 := hbrc.trans (hb2.mono hbrc.size)
                  have hown2 : OwnP5 w2 w.heap.size (.slice (some ⟨g, 0, none⟩) (p + 2) cap') (s ++ [a, b]) := ownsRow_below hownc hb2
                  have hy0 : w2.cell? ⟨Q, 0, none⟩ = some (.int .i64 b.depth) := (hb2.cell hQl).trans cQ0
                  have hy1 : w2.cell? ⟨Q, 1, none⟩ = some (.int .i64 b.binds) := (hb2.cell hQl).trans cQ1
                  have hy2 : w2.cell? ⟨Q, 2, none⟩ = some (.bool false) := (hb2.cell hQl).trans cQ2
                  obtain ⟨db, hdb⟩ : ∃ d, b.inside (levelI n.op + 1) = d := ⟨_, rfl⟩
                  have hib := inside_le hlb (levelI n.op + 1)
                  rw [hdb] at hib
                  have hwl2 : IntKind.i64.wrap (levelI n.op + 1) = levelI n.op + 1 := IntWalk.i64_in _ (by omega)
                  have CJ : ∀ w0 : World, Calls Tryd.prog 36 #[.agg #[.int .i64 b.depth, .int .i64 b.binds, .bool false], .int .i64 (levelI n.op + 1)] w0 fun e w' => e = .returned (.int .i64 db) ∧ Below w0.heap.size w0 w' := fun w0 => by
                    have h := rinside b (levelI n.op + 1) db hlb.1 (by omega) hdb w0
                    rw [hmb] at h
                    exact h
                  have CJH := Lib.hid CJ
                  have hdbH := Lib.hid hdb
                  clear CJ hma hmb hdb
                  go_wp2_with fail
                  go_at_call 36
                  refine (CJH.out _).mono ?_
                  rintro e w3 ⟨rfl, hb3⟩
                  have hbr3 : Below w.heap.size w w3 := hbr2.trans (hb3.mono hbr2.size)
                  have hown3 : OwnP5 w3 w.heap.size (.slice (some ⟨g, 0, none⟩) (p + 2) cap') (s ++ [a, b]) := ownsRow_below hown2 hb3
                  have hownz : w3.ownsRow w.heap.size 81 3 (.slice (some ⟨g, 0, none⟩) (p + 2) cap') (p + 2) (plRow (s ++ [a, b])) := by
                    have h := hown3
                    unfold OwnP5 at h
                    rwa [show (s ++ [a, b]).length = p + 2 from by rw [List.length_append, hp]; rfl] at h
                  have hcut := ownsRow_cut (ys := plRow s) (zs := plRow [a, b]) (m := p) hownz (plRow_app s [a, b]) (by rw [plRow_len, hp]) (by omega) (fun e => by cases e)
                  have hpw : s.length = p := hp
                  have hvg := heap_alloc_new w3 (.cells #[.int .i64 (max da db), .int .i64 (levelI n.op), .bool false] 81)
                  have hB5 : Below w.heap.size w (w3.alloc (.cells #[.int .i64 (max da db), .int .i64 (levelI n.op), .bool false] 81)) := hbr3.alloc (by have := hbr3.size; omega) _
                  have hsz5 : w.heap.size ≤ w3.heap.size := hbr3.size
                  have hown4 := hcut.alloc (.cells #[.int .i64 (max da db), .int .i64 (levelI n.op), .bool false] 81)
                  go_wp2_with (at_builtin; go_loud (refine wpList_append_own_at _ rfl _ _ 79 rfl w.heap.size 81 i0 (.agg #[.int .i64 0, .int .i64 0, .bool false]) 3 24 Tryd.underlying79 hi hz0 hz1 hz2 rfl (by decide) _ _ _ rfl hown4 ⟨w3.heap.size, 0, none⟩ 1 1 (PL.cs ⟨(max da db), (levelI n.op), false⟩) rfl rfl (plget hvg) (by simp [PL.cs, Value.oneCell']) (by unfold maxLen; omega) (by omega) (by simp; omega) ?_); intro v' w5 hown5 hgrow5 _ _)
                  clear hvg
                  have hbr5 : Below w.heap.size w w5 := hB5.grown hgrow5 (by simp; omega) (fun q hq => (hown4.lt q hq).1)
                  clear hgrow5
                  go_roundw
                  case rel => exact ⟨j + 1, s ++ [⟨max da db, levelI n.op, false⟩], by omega, by go_num, by rw [hput'.out]; exact (step_two hm hk ho'.out).trans (by simp [hmH.out.1, hmH.out.2, hdaH.out, hdbH.out]), (hdep'.out.left.mono (by omega)).app (by show (0 : Int) ≤ max da db; omega) (by show max da db ≤ _; omega), by simp <;> omega, by unfold OwnP5; rw [plRow_app, plRow_one, List.length_append, hp]; exact hown5, hbr5⟩
                  case measure => simp [intOf]; omega
        by_cases hk5 : n.kind = 5
        · as_aux_lemma =>
            have fk3 : (n.kind == 3) = false := by simp <;> omega
            have fk4 : (n.kind == 4) = false := by simp <;> omega
            have fk5 : (n.kind == 5) = true := by simp <;> omega
            obtain ⟨ha0, ha1, _⟩ := args_of hm hk5
            obtain ⟨k, hka⟩ : ∃ k : Nat, n.args = k := ⟨n.args.toNat, by omega⟩
            have hkn : n.args.toNat = k := by omega
            have hk16 : k ≤ 16 := by omega
            rw [hka] at hx14
            clear ha0 ha1 hx12
            by_cases hlk : st.length < k
            · have hlk2 : (st.length : Int) < (k : Int) := by omega
              rcases hown1.form (n := st.length) rfl with ⟨h0, rfl⟩ | ⟨g, cap', rfl, hBg, hgw, hle, hrow⟩
              · have hk0 : 0 < k := by omega
                have hk0i : (0 : Int) < (k : Int) := by omega
                go_wp2
                go_ret2
                exact ⟨by rw [hno'.out (j + 1) (by rw [hput'.out]; exact step_call_no hm hk5 (by omega))]; rfl, by (repeat (first | (with_reducible exact Below.refl _ _) | (with_reducible refine Below.alloc ?_ (by first | omega | (dsimp only; omega) | (simp <;> omega)) _) | (with_reducible refine Below.setCell ?_ (by first | omega | (dsimp only; omega) | (simp <;> omega)) _) | (with_reducible refine Below.drew ?_) | (with_reducible refine below_drewN ?_ _) | (with_reducible refine Below.trans ?_ (Below.mono (by assumption) (by first | omega | (dsimp only; omega) | (simp <;> omega))))))⟩
              · clear hrow
                go_wp2
                go_ret2
                exact ⟨by rw [hno'.out (j + 1) (by rw [hput'.out]; exact step_call_no hm hk5 (by omega))]; rfl, by (repeat (first | (with_reducible exact Below.refl _ _) | (with_reducible refine Below.alloc ?_ (by first | omega | (dsimp only; omega) | (simp <;> omega)) _) | (with_reducible refine Below.setCell ?_ (by first | omega | (dsimp only; omega) | (simp <;> omega)) _) | (with_reducible refine Below.drew ?_) | (with_reducible refine below_drewN ?_ _) | (with_reducible refine Below.trans ?_ (Below.mono (by assumption) (by first | omega | (dsimp only; omega) | (simp <;> omega))))))⟩
            · obtain ⟨s, t, rfl, ht⟩ : ∃ s t, st = s ++ t ∧ t.length = k := ⟨st.take (st.length - k), st.drop (st.length - k), (List.take_append_drop _ _).symm, by rw [List.length_drop]; omega⟩
              obtain ⟨p, hp⟩ : ∃ p, s.length = p := ⟨_, rfl⟩
              have hpk : (s ++ t).length = p + k := by rw [List.length_append]; omega
              rw [hpk] at hlk hst
              obtain ⟨hD0, hD1⟩ := deep_le (hdep'.out.right) (by omega)
              have hstep := Lib.hid (step_call hm hk5 (s := s) (ht.trans hkn.symm))
              by_cases hk0 : k = 0
              · subst hk0
                obtain rfl : t = [] := List.eq_nil_of_length_eq_zero ht
                have hpk : (s ++ []).length = p := by rw [List.append_nil]; exact hp
                have hx14 : w1.cell? ⟨wr.heap.size, 14, none⟩ = some (.int .i64 0) := hx14
                rcases hown1.form hpk with ⟨h0, rfl⟩ | ⟨g, cap', rfl, hBg, hgw, hle, hrow⟩
                · subst h0
                  have hwp : IntKind.i64.wrap ((0 : Nat) : Int) = ((0 : Nat) : Int) := IntWalk.i64_in _ (by omega)
                  have hi0 : (0 : Int) ≤ ((0 : Nat) : Int) := by omega
                  have hwd : IntKind.i64.wrap (deepL [] + 1) = deepL [] + 1 := rfl
                  go_wp2_with fail
                  go_loopw [12, 120] (fun d i wq => i = .int .i64 0 ∧ d = .int .i64 (deepL []) ∧ Below w1.heap.size w1 wq) (fun _ _ _ => 0)
                  case atStart => exact ⟨rfl, rfl, Below.refl _ _⟩
                  case round =>
                    obtain ⟨rfl, rfl, hbq⟩ := hrel
                    have hbrq : Below w.heap.size w wr := hbr1.trans (hbq.mono hbr1.size)
                    have hownq : OwnP5 wr w.heap.size _ (s ++ []) := ownsRow_below hown1 hbq
                    have hzq := hbq.size
                    have hxq : wr.cell? ⟨_, 14, none⟩ = some (.int .i64 0) := (hbq.cell hlt1).trans hx14
                    change wr.ownsRow w.heap.size 81 3 _ (s ++ []).length (plRow (s ++ [])) at hownq
                    rw [hpk] at hownq
                    have hcut := ownsRow_cut (ys := plRow s) (zs := plRow []) (m := 0) hownq (plRow_app s []) (by rw [plRow_len, hp]) (by omega) (fun _ => rfl)
                    have hvg := heap_alloc_new wr (.cells #[.int .i64 (deepL [] + 1), .int .i64 7, .bool false] 81)
                    have hB5 : Below w.heap.size w (wr.alloc (.cells #[.int .i64 (deepL [] + 1), .int .i64 7, .bool false] 81)) := hbrq.alloc (by have := hbrq.size; omega) _
                    have hsz5 : w.heap.size ≤ wr.heap.size := hbrq.size
                    have hown4 := hcut.alloc (.cells #[.int .i64 (deepL [] + 1), .int .i64 7, .bool false] 81)
                    go_wp2_with (at_builtin; go_loud (refine wpList_append_own_at _ rfl _ _ 79 rfl w.heap.size 81 i0 (.agg #[.int .i64 0, .int .i64 0, .bool false]) 3 24 Tryd.underlying79 hi hz0 hz1 hz2 rfl (by decide) _ _ _ rfl hown4 ⟨wr.heap.size, 0, none⟩ 1 1 (PL.cs ⟨(deepL [] + 1), 7, false⟩) rfl rfl (plget hvg) (by simp [PL.cs, Value.oneCell']) (by unfold maxLen; omega) (by omega) (by simp; omega) ?_); intro v' w5 hown5 hgrow5 _ _)
                    clear hvg
                    have hbr5 : Below w.heap.size w w5 := hB5.grown hgrow5 (by simp; omega) (fun q hq => (hown4.lt q hq).1)
                    clear hgrow5
                    go_roundw
                    case rel => exact ⟨j + 1, s ++ [⟨deepL [] + 1, 7, false⟩], by omega, by go_num, by rw [hput'.out]; exact hstep.out, (hdep'.out.left.mono (by omega)).app (by show (0 : Int) ≤ deepL [] + 1; omega) (by show deepL [] + 1 ≤ _; omega), by simp <;> omega, by unfold OwnP5; rw [plRow_app, plRow_one, List.length_append, hp]; exact hown5, hbr5⟩
                    case measure => simp [intOf]; omega
                clear hrow
                by_cases hcp : cap' = p
                · obtain rfl : p = cap' := hcp.symm
                  have hwp : IntKind.i64.wrap (p : Int) = (p : Int) := IntWalk.i64_in _ (by omega)
                  have hi0 : (0 : Int) ≤ (p : Int) := by omega
                  have hwd : IntKind.i64.wrap (deepL [] + 1) = deepL [] + 1 := rfl
                  go_wp2_with fail
                  go_loopw [12, 120] (fun d i wq => i = .int .i64 0 ∧ d = .int .i64 (deepL []) ∧ Below w1.heap.size w1 wq) (fun _ _ _ => 0)
                  case atStart => exact ⟨rfl, rfl, Below.refl _ _⟩
                  case round =>
                    obtain ⟨rfl, rfl, hbq⟩ := hrel
                    have hbrq : Below w.heap.size w wr := hbr1.trans (hbq.mono hbr1.size)
                    have hownq : OwnP5 wr w.heap.size _ (s ++ []) := ownsRow_below hown1 hbq
                    have hzq := hbq.size
                    have hxq : wr.cell? ⟨_, 14, none⟩ = some (.int .i64 0) := (hbq.cell hlt1).trans hx14
                    change wr.ownsRow w.heap.size 81 3 _ (s ++ []).length (plRow (s ++ [])) at hownq
                    rw [hpk] at hownq
                    have hcut := ownsRow_cut (ys := plRow s) (zs := plRow []) (m := p) hownq (plRow_app s []) (by rw [plRow_len, hp]) (by omega) (fun e => by cases e)
                    have hvg := heap_alloc_new wr (.cells #[.int .i64 (deepL [] + 1), .int .i64 7, .bool false] 81)
                    have hB5 : Below w.heap.size w (wr.alloc (.cells #[.int .i64 (deepL [] + 1), .int .i64 7, .bool false] 81)) := hbrq.alloc (by have := hbrq.size; omega) _
                    have hsz5 : w.heap.size ≤ wr.heap.size := hbrq.size
                    have hown4 := hcut.alloc (.cells #[.int .i64 (deepL [] + 1), .int .i64 7, .bool false] 81)
                    go_wp2_with (at_builtin; go_loud (refine wpList_append_own_at _ rfl _ _ 79 rfl w.heap.size 81 i0 (.agg #[.int .i64 0, .int .i64 0, .bool false]) 3 24 Tryd.underlying79 hi hz0 hz1 hz2 rfl (by decide) _ _ _ rfl hown4 ⟨wr.heap.size, 0, none⟩ 1 1 (PL.cs ⟨(deepL [] + 1), 7, false⟩) rfl rfl (plget hvg) (by simp [PL.cs, Value.oneCell']) (by unfold maxLen; omega) (by omega) (by simp; omega) ?_); intro v' w5 hown5 hgrow5 _ _)
                    clear hvg
                    have hbr5 : Below w.heap.size w w5 := hB5.grown hgrow5 (by simp; omega) (fun q hq => (hown4.lt q hq).1)
                    clear hgrow5
                    go_roundw
                    case rel => exact ⟨j + 1, s ++ [⟨deepL [] + 1, 7, false⟩], by omega, by go_num, by rw [hput'.out]; exact hstep.out, (hdep'.out.left.mono (by omega)).app (by show (0 : Int) ≤ deepL [] + 1; omega) (by show deepL [] + 1 ≤ _; omega), by simp <;> omega, by unfold OwnP5; rw [plRow_app, plRow_one, List.length_append, hp]; exact hown5, hbr5⟩
                    case measure => simp [intOf]; omega
                · have hwp : IntKind.i64.wrap (p : Int) = (p : Int) := IntWalk.i64_in _ (by omega)
                  have hi0 : (0 : Int) ≤ (p : Int) := by omega
                  have hwd : IntKind.i64.wrap (deepL [] + 1) = deepL [] + 1 := rfl
                  go_wp2_with fail
                  go_loopw [12, 120] (fun d i wq => i = .int .i64 0 ∧ d = .int .i64 (deepL []) ∧ Below w1.heap.size w1 wq) (fun _ _ _ => 0)
                  case atStart => exact ⟨rfl, rfl, Below.refl _ _⟩
                  case round =>
                    obtain ⟨rfl, rfl, hbq⟩ := hrel
                    have hbrq : Below w.heap.size w wr := hbr1.trans (hbq.mono hbr1.size)
                    have hownq : OwnP5 wr w.heap.size _ (s ++ []) := ownsRow_below hown1 hbq
                    have hzq := hbq.size
                    have hxq : wr.cell? ⟨_, 14, none⟩ = some (.int .i64 0) := (hbq.cell hlt1).trans hx14
                    change wr.ownsRow w.heap.size 81 3 _ (s ++ []).length (plRow (s ++ [])) at hownq
                    rw [hpk] at hownq
                    have hcut := ownsRow_cut (ys := plRow s) (zs := plRow []) (m := p) hownq (plRow_app s []) (by rw [plRow_len, hp]) (by omega) (fun e => by cases e)
                    have hvg := heap_alloc_new wr (.cells #[.int .i64 (deepL [] + 1), .int .i64 7, .bool false] 81)
                    have hB5 : Below w.heap.size w (wr.alloc (.cells #[.int .i64 (deepL [] + 1), .int .i64 7, .bool false] 81)) := hbrq.alloc (by have := hbrq.size; omega) _
                    have hsz5 : w.heap.size ≤ wr.heap.size := hbrq.size
                    have hown4 := hcut.alloc (.cells #[.int .i64 (deepL [] + 1), .int .i64 7, .bool false] 81)
                    go_wp2_with (at_builtin; go_loud (refine wpList_append_own_at _ rfl _ _ 79 rfl w.heap.size 81 i0 (.agg #[.int .i64 0, .int .i64 0, .bool false]) 3 24 Tryd.underlying79 hi hz0 hz1 hz2 rfl (by decide) _ _ _ rfl hown4 ⟨wr.heap.size, 0, none⟩ 1 1 (PL.cs ⟨(deepL [] + 1), 7, false⟩) rfl rfl (plget hvg) (by simp [PL.cs, Value.oneCell']) (by unfold maxLen; omega) (by omega) (by simp; omega) ?_); intro v' w5 hown5 hgrow5 _ _)
                    clear hvg
                    have hbr5 : Below w.heap.size w w5 := hB5.grown hgrow5 (by simp; omega) (fun q hq => (hown4.lt q hq).1)
                    clear hgrow5
                    go_roundw
                    case rel => exact ⟨j + 1, s ++ [⟨deepL [] + 1, 7, false⟩], by omega, by go_num, by rw [hput'.out]; exact hstep.out, (hdep'.out.left.mono (by omega)).app (by show (0 : Int) ≤ deepL [] + 1; omega) (by show deepL [] + 1 ≤ _; omega), by simp <;> omega, by unfold OwnP5; rw [plRow_app, plRow_one, List.length_append, hp]; exact hown5, hbr5⟩
                    case measure => simp [intOf]; omega
              rcases hown1.form hpk with ⟨h0, rfl⟩ | ⟨g, cap', rfl, hBg, hgw, hle, hrow⟩
              · omega
              have hcp : ¬ cap' = p := by omega
              have hwk : IntKind.i64.wrap ((p : Int) + (k : Int) - (k : Int)) = (p : Int) := by rw [IntWalk.i64_in _ (by omega)]; omega
              have hwp : IntKind.i64.wrap (p : Int) = (p : Int) := IntWalk.i64_in _ (by omega)
              have hlki : ¬ ((p : Int) + (k : Int) < (k : Int)) := by omega
              have hi0 : (0 : Int) ≤ (p : Int) := by omega
              have hi1 : (p : Int) ≤ (p : Int) + (k : Int) := by omega
              have hwd : IntKind.i64.wrap (deepL t + 1) = deepL t + 1 := IntWalk.i64_in _ (by omega)
              have hrow' := Lib.hid hrow
              clear hrow
              go_wp2_with fail
              skip
              go_loopw [12, 120] (fun d i wq => ∃ (q : Nat), q ≤ k ∧ i = .int .i64 (q : Int) ∧ d = .int .i64 (deepL (t.take q)) ∧ Below w1.heap.size w1 wq) (fun _ i _ => k - (intOf i).toNat)
              case atStart => exact ⟨0, by omega, rfl, rfl, Below.refl _ _⟩
              case round =>
                obtain ⟨q, hq, rfl, rfl, hbq⟩ := hrel
                have hzq := hbq.size
                by_cases hqk : q < k
                · obtain ⟨x, hx⟩ : ∃ x, t[q]? = some x := ⟨_, List.getElem?_eq_getElem (by omega)⟩
                  have hqki : (q : Int) < (k : Int) := by omega
                  have hqk0 : (0 : Int) ≤ (q : Int) := by omega
                  have hwq : IntKind.i64.wrap ((q : Int) + 1) = (q : Int) + 1 := IntWalk.i64_in _ (by omega)
                  have hq0 : wr.cell? ⟨g, p * 3 + q * 3, none⟩ = some (.int .i64 x.depth) := by rw [hbq.cell hgw, hrow'.out _ (by omega)]; exact plRow_at s t p q hp x hx 0 _ rfl
                  have hq1 : wr.cell? ⟨g, p * 3 + q * 3 + 1, none⟩ = some (.int .i64 x.binds) := by rw [hbq.cell hgw, hrow'.out _ (by omega)]; exact plRow_at s t p q hp x hx 1 _ rfl
                  have hq2 : wr.cell? ⟨g, p * 3 + q * 3 + 2, none⟩ = some (.bool x.many) := by rw [hbq.cell hgw, hrow'.out _ (by omega)]; exact plRow_at s t p q hp x hx 2 _ rfl
                  have hdq : max (deepL (t.take q)) x.depth = deepL (t.take (q + 1)) := by rw [List.take_add_one, hx]; exact (deep_snoc _ _).symm
                  have hdq' := Lib.hid hdq
                  clear hdq hx
                  go_wp2
                  go_roundw
                  case rel => exact ⟨q + 1, by omega, by go_num, by rw [hdq'.out], by (repeat (first | (with_reducible exact Below.refl _ _) | (with_reducible refine Below.alloc ?_ (by first | omega | (dsimp only; omega) | (simp <;> omega)) _) | (with_reducible refine Below.setCell ?_ (by first | omega | (dsimp only; omega) | (simp <;> omega)) _) | (with_reducible refine Below.drew ?_) | (with_reducible refine below_drewN ?_ _) | (with_reducible refine Below.trans ?_ (Below.mono (by assumption) (by first | omega | (dsimp only; omega) | (simp <;> omega))))))⟩
                  case measure => simp [intOf]; omega
                · obtain rfl : q = k := by omega
                  have hbrq : Below w.heap.size w wr := hbr1.trans (hbq.mono hbr1.size)
                  have hownq : OwnP5 wr w.heap.size _ (s ++ t) := ownsRow_below hown1 hbq
                  have hxq : wr.cell? ⟨_, 14, none⟩ = some (.int .i64 (q : Int)) := (hbq.cell hlt1).trans hx14
                  have hqq : ¬ ((q : Int) < (q : Int)) := by omega
                  have htt : t.take q = t := List.take_of_length_le (by omega)
                  rw [htt]
                  change wr.ownsRow w.heap.size 81 3 _ (s ++ t).length (plRow (s ++ t)) at hownq
                  rw [hpk] at hownq
                  have hcut := ownsRow_cut (ys := plRow s) (zs := plRow t) (m := p) hownq (plRow_app s t) (by rw [plRow_len, hp]) (by omega) (fun e => by cases e)
                  have hvg := heap_alloc_new wr (.cells #[.int .i64 (deepL t + 1), .int .i64 7, .bool false] 81)
                  have hB5 : Below w.heap.size w (wr.alloc (.cells #[.int .i64 (deepL t + 1), .int .i64 7, .bool false] 81)) := hbrq.alloc (by have := hbrq.size; omega) _
                  have hsz5 : w.heap.size ≤ wr.heap.size := hbrq.size
                  have hown4 := hcut.alloc (.cells #[.int .i64 (deepL t + 1), .int .i64 7, .bool false] 81)
                  go_wp2_with (at_builtin; go_loud (refine wpList_append_own_at _ rfl _ _ 79 rfl w.heap.size 81 i0 (.agg #[.int .i64 0, .int .i64 0, .bool false]) 3 24 Tryd.underlying79 hi hz0 hz1 hz2 rfl (by decide) _ _ _ rfl hown4 ⟨wr.heap.size, 0, none⟩ 1 1 (PL.cs ⟨(deepL t + 1), 7, false⟩) rfl rfl (plget hvg) (by simp [PL.cs, Value.oneCell']) (by unfold maxLen; omega) (by omega) (by simp; omega) ?_); intro v' w5 hown5 hgrow5 _ _)
                  clear hvg
                  have hbr5 : Below w.heap.size w w5 := hB5.grown hgrow5 (by simp; omega) (fun q hq => (hown4.lt q hq).1)
                  clear hgrow5
                  go_roundw
                  case rel => exact ⟨j + 1, s ++ [⟨deepL t + 1, 7, false⟩], by omega, by go_num, by rw [hput'.out]; exact hstep.out, (hdep'.out.left.mono (by omega)).app (by show (0 : Int) ≤ deepL t + 1; omega) (by show deepL t + 1 ≤ _; omega), by simp <;> omega, by unfold OwnP5; rw [plRow_app, plRow_one, List.length_append, hp]; exact hown5, hbr5⟩
                  case measure => simp [intOf]; omega
        as_aux_lemma =>
          have f0 : (n.kind == 3) = false := by simp <;> omega
          have f1 : (n.kind == 4) = false := by simp <;> omega
          have f2 : (n.kind == 5) = false := by simp <;> omega
          have hvg := heap_alloc_new w1 (.cells #[.int .i64 0, .int .i64 7, .bool false] 81)
          have hB5 : Below w.heap.size w (w1.alloc (.cells #[.int .i64 0, .int .i64 7, .bool false] 81)) := hbr1.alloc (by have := hbr1.size; omega) _
          have hsz5 : w.heap.size ≤ w1.heap.size := hbr1.size
          have hown4 := hown1.alloc (.cells #[.int .i64 0, .int .i64 7, .bool false] 81)
          go_wp2_with (at_builtin; go_loud (refine wpList_append_own_at _ rfl _ _ 79 rfl w.heap.size 81 i0 (.agg #[.int .i64 0, .int .i64 0, .bool false]) 3 24 Tryd.underlying79 hi hz0 hz1 hz2 rfl (by decide) _ _ _ rfl hown4 ⟨w1.heap.size, 0, none⟩ 1 1 (PL.cs ⟨0, 7, false⟩) rfl rfl (plget hvg) (by simp [PL.cs, Value.oneCell']) (by unfold maxLen; omega) (by omega) (by simp; omega) ?_); intro v' w5 hown5 hgrow5 _ _)
          clear hvg
          have hbr5 : Below w.heap.size w w5 := hB5.grown hgrow5 (by simp; omega) (fun q hq => (hown4.lt q hq).1)
          clear hgrow5
          go_roundw
          case rel => exact ⟨j + 1, st ++ [⟨0, 7, false⟩], by omega, by go_num, by rw [hput'.out]; exact step_leaf hm hk3 hk hk5, (hdep'.out.mono (by omega)).app (by decide) (by show (0 : Int) ≤ _; omega), by simp <;> omega, by unfold OwnP5; rw [plRow_app, plRow_one, List.length_append]; exact hown5, hbr5⟩
          case measure => simp [intOf]; omega
    · obtain rfl : j = ns.length := by omega
      clear hR' hok'
      rw [List.take_of_length_le (Nat.le_refl _)] at hput
      have hdd' := Lib.hid (depth_last (by omega) (by omega) hput)
      clear hput hdep hno'
      have hjj : ¬ ((ns.length : Int) < (ns.length : Int)) := by omega
      rcases st with _ | ⟨p, st⟩
      · rcases hown.form rfl with ⟨_, rfl⟩ | ⟨g, cap', rfl, hBg, hgw, hle, hrow⟩
        all_goals go_wp2
        all_goals go_ret2
        all_goals exact ⟨by rw [hdd'.out]; rfl, hbr⟩
      rcases st with _ | ⟨p2, st⟩
      · rcases hown.form (n := 1) rfl with ⟨h0, _⟩ | ⟨g, cap', rfl, hBg, hgw, hle, hrow⟩
        · omega
        have hq0 : wr.cell? ⟨g, 0, none⟩ = some (.int .i64 p.depth) := (hrow 0 (by omega)).trans rfl
        have hq1 : wr.cell? ⟨g, 1, none⟩ = some (.int .i64 p.binds) := (hrow 1 (by omega)).trans rfl
        have hq2 : wr.cell? ⟨g, 2, none⟩ = some (.bool p.many) := (hrow 2 (by omega)).trans rfl
        clear hrow
        obtain ⟨d, b, m⟩ := p
        cases m
        all_goals go_wp2
        all_goals go_ret2
        all_goals exact ⟨by rw [hdd'.out]; rfl, hbr⟩
      · obtain ⟨m, hm⟩ : ∃ m, (p :: p2 :: st).length = m + 2 := ⟨st.length, by simp⟩
        have hm1 : ¬ ((m : Int) + 2 = 1) := by omega
        have hm2 : ¬ (m + 2 = 1) := by omega
        rcases hown.form hm with ⟨h0, _⟩ | ⟨g, cap', rfl, hBg, hgw, hle, hrow⟩
        · omega
        clear hrow
        go_wp2
        go_ret2
        exact ⟨by rw [hdd'.out]; rfl, hbr⟩
end Go.Proofs.YtfbkoieodflcpaaDoor
