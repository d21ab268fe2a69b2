/-
  print: Print.
-/
import Derived.Test.YtfbkoieodflcpaaGreatDoorMg3
import Derived.Test.YtfbkoieodflcpaaGreatDoorRows
import Derived.Test.YtfbkoieodflcpaaGreatDoorMg0
import Derived.Test.YtfbkoieodflcpaaGreatDoorProg
import Derived.Test.YtfbkoieodflcpaaGreatDoorShelf
import Derived.Test.YtfbkoieodflcpaaGreatDoorMg4
import Derived.Test.YtfbkoieodflcpaaGreatDoorAddrC
import Derived.Test.YtfbkoieodflcpaaGreatDoorMg6
import Derived.Test.YtfbkoieodflcpaaGreatDoorValA
import Derived.Test.YtfbkoieodflcpaaGreatDoorValB
import Derived.Test.YtfbkoieodflcpaaGreatDoorMg9
import Derived.Test.YtfbkoieodflcpaaGreatDoorMg10
import Derived.Test.YtfbkoieodflcpaaGreatDoorMg11
import Derived.Test.YtfbkoieodflcpaaGreatDoorLexS
import Derived.Test.YtfbkoieodflcpaaGreatDoorRefN
import Derived.Test.YtfbkoieodflcpaaGreatDoorRefM
import Derived.Test.YtfbkoieodflcpaaGreatDoorRefY
import Derived.Test.YtfbkoieodflcpaaGreatDoorMg15
import Derived.Test.YtfbkoieodflcpaaGreatDoorRefD
import Derived.Test.YtfbkoieodflcpaaGreatDoorRefC
import Derived.Test.YtfbkoieodflcpaaGreatDoorMg2
import Derived.Test.YtfbkoieodflcpaaGreatDoorMg12
import Derived.Test.YtfbkoieodflcpaaGreatDoorValL
import Derived.Test.YtfbkoieodflcpaaGreatDoorMg14
import Derived.Outline
import Derived.Deep.AppendLies
import Derived.WalkSpells
import Derived.WalkLawsBesides
import Derived.StillTactics
import Derived.Laws.Pointers
import Derived.Deep.RegionHeld3
import Derived.Deep.QuietTactic
import Derived.BigQuiet
import Derived.RowKit3
import Derived.Lib.Hide
import Derived.Lib.OthersKept
import Derived.OwnWalk
import Derived.Lib.IndexLaws
import Derived.Lib.ItoaMem
import Derived.Lib.TrimByte
import Derived.Lib.SlTrimSet
import Derived.Lib.ParseIntB
import Derived.WalkKit
import Derived.ProofKit
import Derived.OpenShut
import Derived.Carry
import Derived.ChangeSame
import Derived.Deep.Draws
import Derived.Shelf.Strings.Builder1
import Derived.Shelf.Strings.Builder2
import Derived.Shelf.Strings.Trim
import Derived.Shelf.Small.Utf8
import Derived.Shelf.Small.Strs
import Derived.Shelf.Small.Wraps
import Derived.Shelf.Strings.BuilderF
import Derived.Shelf.Strings.BuilderK
import Derived.Shelf.Utf8.RuneCount
import Derived.Shelf.Strconv.Itoa0
import Derived.Shelf.Strconv.Itoa1
import Derived.Shelf.LaysM
import Derived.Shelf.Strconv.Itoa2
import Derived.Shelf.Strconv.Itoa3
import Derived.Ground.MpProg
import Derived.Shelf.Pu.ParseUintPublic10
import Derived.Shelf.Strings.Search1
import Derived.Shelf.Strings.Search2
import Derived.Shelf.Strings.Search3
import Derived.Shelf.Strings.Cut
import Derived.Shelf.Strings.Count
import Derived.Shelf.Strings.Shaped
import Derived.Shelf.Strings.Prefix
import Derived.Shelf.Strings.Split
import Derived.Shelf.Strings.Replace
import Derived.Shelf.Strings.SplitShaped
import Derived.Shelf.Unicode.Decode
import Derived.Shelf.Strings.Runes
import Derived.Shelf.Strings.RuneCount
import Derived.Shelf.Strings.AsciiSet
import Derived.Shelf.Unicode.DecodeSlow
import Derived.Shelf.Unicode.DecodeAny
import Derived.Shelf.Unicode.DecodeLast
import Derived.Lib.ItoaNum
import Derived.Maps.OwnSet
import Derived.Maps.AppendAt
import Derived.Deep.CutRange
import Derived.Lib.Bytealg
import Derived.Lib.Replace
namespace Go.Proofs.YtfbkoieodflcpaaGreatDoor
open Go.RowKit

theorem piece_info : (Tryz.prog.info? 50).map (fun i => (i.zero, i.size, i.bytes)) = some (some (.agg #[.string ⟨#[]⟩, .int .i64 0]), 2, 24) := by kernel_rfl
def OwnTL (w : World) (B : Nat) (v : Value) (l : List TL) : Prop := w.ownsRow B 50 2 v l.length (tlRow l)
theorem OwnTL.form {w : World} {B n : Nat} {v : Value} {st : List TL} (h : OwnTL w B v st) (hn : st.length = n) : (n = 0 ∧ v = .slice none 0 0) ∨ ∃ g cap, v = .slice (some ⟨g, 0, none⟩) n cap ∧ B ≤ g ∧ g < w.heap.size ∧ n ≤ cap ∧ ∀ j, j < n * 2 → w.cell? ⟨g, j, none⟩ = (tlRow st)[j]? := by
  subst hn
  have h0 := h
  obtain ⟨h1, h2⟩ := h
  rcases h2 with ⟨hv, hn⟩ | ⟨g, cap, cur, rfl, hg, hh, hle, hmx, hsz, htk⟩
  · exact Or.inl ⟨hn, hv⟩
  · exact Or.inr ⟨g, cap, rfl, hg, (Array.getElem?_eq_some_iff.1 hh).1, hle, fun j hj => World.ownsRow.cellAt h0 j hj⟩
theorem OwnTL.as {w : World} {B n : Nat} {v : Value} {st : List TL} (h : OwnTL w B v st) (hn : st.length = n) : w.ownsRow B 50 2 v n (tlRow st) := hn ▸ h
theorem OwnTL.of {w : World} {B n : Nat} {v : Value} {st : List TL} (h : w.ownsRow B 50 2 v n (tlRow st)) (hn : st.length = n) : OwnTL w B v st := by
  subst hn
  exact h
theorem own_lt {w : World} {B B2 size n : Nat} {e : TypeId} {v : Value} {xs : List Value} (h : w.ownsRow B e size v n xs) (hb : w.heap.size ≤ B2) : ∀ q, v.ownBlock = some q → q < B2 := fun q hq => Nat.lt_of_lt_of_le (h.lt q hq).2 hb
theorem tlRow_at (s t : List TL) (p q : Nat) (hp : s.length = p) (x : TL) (hx : t[q]? = some x) (i : Nat) (u : Value) (hu : x.cs[i]? = some u) : (tlRow (s ++ t))[p * 2 + q * 2 + i]? = some u := by
  rw [tlRow_app, List.getElem?_append_right (by rw [tlRow_len]; omega), tlRow_len, hp, show p * 2 + q * 2 + i - p * 2 = q * 2 + i by omega]
  exact flat_at (t.map TL.cs) (fun c hc => by obtain ⟨y, _, rfl⟩ := List.mem_map.1 hc; rfl) q x.cs (by rw [List.getElem?_map, hx]; rfl) i u hu
theorem tl_new (s : List TL) (t : ByteArray) (l : List UInt8) (b : Int) (e : t = ⟨l.toArray⟩) : tlRow s ++ [.string t, .int .i64 b] = tlRow (s ++ [⟨l, b⟩]) := by rw [e, tlRow_app, tlRow_one]; rfl
theorem tl_set (S : List TL) (x : TL) (p : Nat) (hp : S.length = p) (t : ByteArray) (l : List UInt8) (b : Int) (e : t = ⟨l.toArray⟩) : ((tlRow (S ++ [x])).set (p * 2) (.string t)).set (p * 2 + 1) (.int .i64 b) = tlRow (S ++ [⟨l, b⟩]) := by
  subst e hp
  rw [tlRow_app, tlRow_app, tlRow_one, tlRow_one, ← tlRow_len, List.set_append_right _ _ (Nat.le_refl _), Nat.sub_self, List.set_append_right _ _ (Nat.le_add_right _ _), show (tlRow S).length + 1 - (tlRow S).length = 1 by omega]
  rfl
theorem cat2 (a b : List UInt8) : (⟨a.toArray⟩ : ByteArray) ++ ⟨b.toArray⟩ = ⟨(a ++ b).toArray⟩ := by
  apply ByteArray.ext
  simp
theorem al_cell {w : World} {o : Obj} {a : Addr} {v : Value} (h : a.block < w.heap.size) (h2 : w.cell? a = some v) : (w.alloc o).cell? a = some v := by
  rw [World.cell?_alloc_lt _ _ _ h]
  exact h2
theorem lwriteK (B : Nat) (acc : List UInt8) (b : UInt8) (hl : acc.length + 1 ≤ 140737488355328) (w : World) (hB : B ≤ w.heap.size) (h : Lib.IsBuilderF 59 5 B B (Lib.byteCells acc) w) (X : Nat) (x : Obj) (hX : w.heap[X]? = some x) (hne : X ≠ B) (hk : ∀ c fz, x ≠ .cells c 5 fz) : Calls Tryz.prog 17 #[.pointer (some ⟨B, 0, none⟩), .int .u8 (b.toNat : Int)] w fun e w' => e = .returned .nilIface ∧ Lib.IsBuilderF 59 5 B B (Lib.byteCells (acc ++ [b])) w' ∧ Below B w w' ∧ w'.heap[X]? = some x := by
  refine (Go.Proofs.Any.Builder_WriteByte_k lays_wbyte bextra B B _ (b.toNat : Int) w h (by rw [byteCells_len]; exact hl) hB).mono ?_
  rintro e w' ⟨he, h1, h2, h3⟩
  refine ⟨he, ?_, h2, h3 X _ hX (fun e => hne (Option.some.inj e)) hk⟩
  rw [byteCells_app]
  exact Or.inr h1
theorem isB_lt {T e : TypeId} {B b : Nat} {bs : List Value} {w : World} (h : Lib.IsBuilderF T e B b bs w) : b < w.heap.size := by
  rcases h with ⟨_, v, hv, _⟩ | ⟨_, v, hv, _⟩ <;> exact (Array.getElem?_eq_some_iff.1 hv).1
theorem ownsRow_keep {w w' : World} {B B2 size n : Nat} {e : TypeId} {v : Value} {xs : List Value} (h : w.ownsRow B e size v n xs) (hb : Below B2 w w') (hlt : ∀ q, v.ownBlock = some q → q < B2) : w'.ownsRow B e size v n xs := by
  obtain ⟨h1, h2⟩ := h
  rcases h2 with ⟨h2, h3⟩ | ⟨g, cap, cur, hv, hB, hh, hr⟩
  · exact ⟨h1, .inl ⟨h2, h3⟩⟩
  · exact ⟨h1, .inr ⟨g, cap, cur, hv, hB, by rw [hb.block g (hlt g (by rw [hv]; rfl))]; exact hh, hr⟩⟩
theorem one_eq (l : List UInt8) : (⟨#[61]⟩ : ByteArray) ++ ⟨l.toArray⟩ = ⟨(61 :: l).toArray⟩ := by
  apply ByteArray.ext
  simp
set_option maxRecDepth 100000 in
set_option maxHeartbeats 40000000 in
theorem print_yes (ns : List NL) (hlen : ns.length ≤ 9223372036854775807) (hok : ∀ n ∈ ns, n.ok) (hsz : ∀ n ∈ ns, n.v.s.size ≤ 1048576) (w : World) (ht : Tab w) (A : Option Addr) (cap : Nat) (hR : RdB w w.heap.size A 15 (ns.map NL.cs)) (hc : checkP ns = true) : Calls Tryz.prog 5 #[.agg #[.slice A ns.length cap]] w fun e w' => e = .returned (.tuple #[.string ⟨(formT ns).toArray⟩, .int .i64 0]) ∧ Below w.heap.size w w' := by
  obtain ⟨i0, hi, hz0, hz1, hz2⟩ := info_parts piece_info
  have C : ∀ w0 : World, Below w.heap.size w w0 → Calls Tryz.prog 10 #[.agg #[.slice A ns.length cap]] w0 fun e w' => e = .returned (.int .i64 0) ∧ Below w0.heap.size w0 w' := fun w0 hb0 => refcheck ns hlen hok w0 A cap ((hR.below hb0).mono hb0.size) true hc
  have CH := Lib.hid C
  obtain ⟨hl1, hl2, hHP, x0, hx0⟩ := check_yes hc
  have hHP' := Lib.hid hHP
  have hfH := Lib.hid ((by unfold formT; rw [hx0]) : formT ns = 61 :: x0.text)
  have hx0' := Lib.hid hx0
  have hR' := Lib.hid hR
  have hok' := Lib.hid hok
  have hsz' := Lib.hid hsz
  clear C hR hc hok hsz hHP hx0
  go_enter Tryz.func5, Tryz.ntmps5
  go_wp2_with fail
  go_at_call 10
  refine (CH.out _ ((Below.refl _ _).alloc (Nat.le_refl _) _)).mono ?_
  rintro e w1 ⟨rfl, hb⟩
  have hb1 : Below w.heap.size w w1 := ((Below.refl _ _).alloc (Nat.le_refl _) (.cells #[.slice A ns.length cap] 24)).trans (hb.mono (by simp))
  have hfc : w1.cell? ⟨w.heap.size, 0, none⟩ = some (.slice A ns.length cap) := (hb.cell (p := ⟨w.heap.size, 0, none⟩) (by show _ < (World.alloc _ _).heap.size; simp)).trans (by simp [go_sem])
  clear hb
  go_wp2_with fail
  go_loopw [5, 23] (fun l i wr => ∃ (j : Nat) (T : List TL), j ≤ ns.length ∧ i = .int .i64 (j : Int) ∧ Hid (putT (ns.take j) = T) ∧ T.length ≤ j ∧ totT T ≤ j * 2097160 ∧ OwnTL wr w.heap.size l T ∧ Below w.heap.size w wr) (fun _ i _ => ns.length - (intOf i).toNat)
  case atStart => exact ⟨0, [], by omega, rfl, Lib.hid rfl, by simp, by simp [totT], World.ownsRow_nil _ _ _ _, hb1⟩
  case round =>
    clear hb1 hfc
    obtain ⟨j, T, hj, rfl, hput, hTl, htot, hown, hbr⟩ := hrel
    have hzr := hbr.size
    by_cases hlt : j < ns.length
    · obtain ⟨n, hn⟩ : ∃ n, ns[j]? = some n := ⟨_, List.getElem?_eq_getElem hlt⟩
      have hnok := hok'.out n (List.mem_of_getElem? hn)
      have hns := hsz'.out n (List.mem_of_getElem? hn)
      have hRd := round_of hHP'.out hn hnok.1 hns hput.out hTl htot
      obtain ⟨ab, ao, hA2, hab, hcell⟩ := (hR'.out.below hbr) j n.cs (by rw [List.getElem?_map, hn]; rfl)
      obtain rfl : A = some ⟨ab, ao, none⟩ := hA2
      have hc0 : wr.cell? ⟨ab, ao + j * 15, none⟩ = some (.int .i64 n.kind) := hcell 0 _ rfl
      have hc1 : wr.cell? ⟨ab, ao + j * 15 + 1, none⟩ = some (.int .i64 n.v.t) := hcell 1 _ rfl
      have hc2 : wr.cell? ⟨ab, ao + j * 15 + 2, none⟩ = some (.int .i64 n.v.n) := hcell 2 _ rfl
      have hc3 : wr.cell? ⟨ab, ao + j * 15 + 3, none⟩ = some (.string n.v.s) := hcell 3 _ rfl
      have hc4 : wr.cell? ⟨ab, ao + j * 15 + 4, none⟩ = some (.bool n.v.b) := hcell 4 _ rfl
      have hc5 : wr.cell? ⟨ab, ao + j * 15 + 5, none⟩ = some (.int .i64 n.v.c) := hcell 5 _ rfl
      have hc6 : wr.cell? ⟨ab, ao + j * 15 + 6, none⟩ = some (.int .i64 n.r) := hcell 6 _ rfl
      have hc7 : wr.cell? ⟨ab, ao + j * 15 + 7, none⟩ = some (.int .i64 n.c) := hcell 7 _ rfl
      have hc8 : wr.cell? ⟨ab, ao + j * 15 + 8, none⟩ = some (.int .i64 n.t) := hcell 8 _ rfl
      have hc9 : wr.cell? ⟨ab, ao + j * 15 + 9, none⟩ = some (.int .i64 n.l) := hcell 9 _ rfl
      have hc10 : wr.cell? ⟨ab, ao + j * 15 + 10, none⟩ = some (.int .i64 n.b) := hcell 10 _ rfl
      have hc11 : wr.cell? ⟨ab, ao + j * 15 + 11, none⟩ = some (.int .i64 n.q) := hcell 11 _ rfl
      have hc12 : wr.cell? ⟨ab, ao + j * 15 + 12, none⟩ = some (.int .i64 n.op) := hcell 12 _ rfl
      have hc13 : wr.cell? ⟨ab, ao + j * 15 + 13, none⟩ = some (.string n.name) := hcell 13 _ rfl
      have hc14 : wr.cell? ⟨ab, ao + j * 15 + 14, none⟩ = some (.int .i64 n.args) := hcell 14 _ rfl
      clear hcell hn hput
      have habr : ab < wr.heap.size := by omega
      have hkl : (j : Int) < (ns.length : Int) := by omega
      have hne : ab ≠ wr.heap.size := by omega
      rcases kind_of hRd.may with hk | hk | hk | hk | hk
      · as_aux_lemma =>
          have fk1 : (n.kind == 1) = true := by rw [hk]; rfl
          obtain ⟨e1, e2, _⟩ := may_value hRd.may hk
          obtain ⟨r, hr⟩ : ∃ r, litT n.v = r := ⟨_, rfl⟩
          have CL : ∀ w0 : World, Tab w0 → Calls Tryz.prog 11 #[.agg #[.int .i64 n.v.t, .int .i64 n.v.n, .string n.v.s, .bool n.v.b, .int .i64 n.v.c]] w0 fun e w' => e = .returned (.string ⟨r.toArray⟩) ∧ Below w0.heap.size w0 w' := fun w0 h0 => by rw [← hr]; exact prlit n.v hnok.1 e1 e2 (by omega) w0 h0
          have CLH := Lib.hid CL
          have hstH := Lib.hid (((stepT_lit hk).trans (by rw [hr])) : stepT T n = T ++ [⟨r, 7⟩])
          clear CL hr hk e1 e2
          go_wp2_with fail
          go_at_call 11
          refine (CLH.out _ (Tab.below ht (by (repeat (first | (with_reducible exact Below.refl _ _) | (with_reducible refine Below.alloc ?_ (by first | omega | (dsimp only; omega) | (simp <;> omega)) _) | (with_reducible refine Below.setCell ?_ (by first | omega | (dsimp only; omega) | (simp <;> omega)) _) | (with_reducible refine Below.drew ?_) | (with_reducible refine below_drewN ?_ _) | (with_reducible refine Below.trans ?_ (Below.mono (by assumption) (by first | omega | (dsimp only; omega) | (simp <;> omega))))))))).mono ?_
          rintro e w2 ⟨rfl, hb⟩
          have hbr2 : Below w.heap.size w w2 := (hbr.alloc hzr (.cells #[.int .i64 n.kind, .int .i64 n.v.t, .int .i64 n.v.n, .string n.v.s, .bool n.v.b, .int .i64 n.v.c, .int .i64 n.r, .int .i64 n.c, .int .i64 n.t, .int .i64 n.l, .int .i64 n.b, .int .i64 n.q, .int .i64 n.op, .string n.name, .int .i64 n.args] 47)).trans (hb.mono (by simp; omega))
          have hown2 : w2.ownsRow w.heap.size 50 2 _ T.length (tlRow T) := ownsRow_below (World.ownsRow.alloc hown (.cells #[.int .i64 n.kind, .int .i64 n.v.t, .int .i64 n.v.n, .string n.v.s, .bool n.v.b, .int .i64 n.v.c, .int .i64 n.r, .int .i64 n.c, .int .i64 n.t, .int .i64 n.l, .int .i64 n.b, .int .i64 n.q, .int .i64 n.op, .string n.name, .int .i64 n.args] 47)) hb
          clear hb
          have hvg := heap_alloc_new w2 (.cells #[.string ⟨r.toArray⟩, .int .i64 7] 50)
          have hB5 : Below w.heap.size w (w2.alloc (.cells #[.string ⟨r.toArray⟩, .int .i64 7] 50)) := hbr2.alloc (by have := hbr2.size; omega) _
          have hsz5 : w.heap.size ≤ w2.heap.size := hbr2.size
          have hown4 := World.ownsRow.alloc hown2 (.cells #[.string ⟨r.toArray⟩, .int .i64 7] 50)
          go_wp2_with (at_builtin; go_loud (refine wpList_append_own_at _ rfl _ _ 37 rfl w.heap.size 50 i0 (.agg #[.string ⟨#[]⟩, .int .i64 0]) 2 24 Tryz.underlying37 hi hz0 hz1 hz2 rfl (by decide) _ _ _ rfl hown4 ⟨w2.heap.size, 0, none⟩ 1 1 [.string ⟨r.toArray⟩, .int .i64 7] rfl rfl (World.news_of_block hvg) (by simp [Value.oneCell']) (by unfold maxLen; omega) (by omega) (by simp; omega) ?_); intro v' w5 hown5 hgrow5 _ _)
          clear hvg
          have hbr5 : Below w.heap.size w w5 := hB5.grown hgrow5 (by simp; omega) (fun q hq => (World.ownsRow.lt hown4 q hq).1)
          clear hgrow5
          go_roundw
          case rel => exact ⟨j + 1, stepT T n, by omega, by go_num, Lib.hid hRd.put, hRd.len, hRd.tot, by rw [hstH.out]; unfold OwnTL; rw [List.length_append, ← tl_new _ _ _ _ (rfl)]; exact hown5, hbr5⟩
          case measure => simp [intOf]; omega
      · as_aux_lemma =>
          have fk1 : (n.kind == 1) = false := by rw [hk]; rfl
          have fk2 : (n.kind == 2) = true := by rw [hk]; rfl
          obtain ⟨r, hr⟩ : ∃ r, nameZ n.r n.c = r := ⟨_, rfl⟩
          have CL : ∀ w0 : World, Tab w0 → Calls Tryz.prog 12 #[.agg #[.int .i64 n.r, .int .i64 n.c]] w0 fun e w' => e = .returned (.string ⟨r.toArray⟩) ∧ Below w0.heap.size w0 w' := fun w0 h0 => by rw [← hr]; exact aname_any n.r n.c w0 h0
          have CLH := Lib.hid CL
          have hstH := Lib.hid (((stepT_cell hk).trans (by rw [hr])) : stepT T n = T ++ [⟨r, 7⟩])
          clear CL hr hk
          go_wp2_with fail
          go_at_call 12
          refine (CLH.out _ (Tab.below ht (by (repeat (first | (with_reducible exact Below.refl _ _) | (with_reducible refine Below.alloc ?_ (by first | omega | (dsimp only; omega) | (simp <;> omega)) _) | (with_reducible refine Below.setCell ?_ (by first | omega | (dsimp only; omega) | (simp <;> omega)) _) | (with_reducible refine Below.drew ?_) | (with_reducible refine below_drewN ?_ _) | (with_reducible refine Below.trans ?_ (Below.mono (by assumption) (by first | omega | (dsimp only; omega) | (simp <;> omega))))))))).mono ?_
          rintro e w2 ⟨rfl, hb⟩
          have hbr2 : Below w.heap.size w w2 := (hbr.alloc hzr (.cells #[.int .i64 n.kind, .int .i64 n.v.t, .int .i64 n.v.n, .string n.v.s, .bool n.v.b, .int .i64 n.v.c, .int .i64 n.r, .int .i64 n.c, .int .i64 n.t, .int .i64 n.l, .int .i64 n.b, .int .i64 n.q, .int .i64 n.op, .string n.name, .int .i64 n.args] 47)).trans (hb.mono (by simp; omega))
          have hown2 : w2.ownsRow w.heap.size 50 2 _ T.length (tlRow T) := ownsRow_below (World.ownsRow.alloc hown (.cells #[.int .i64 n.kind, .int .i64 n.v.t, .int .i64 n.v.n, .string n.v.s, .bool n.v.b, .int .i64 n.v.c, .int .i64 n.r, .int .i64 n.c, .int .i64 n.t, .int .i64 n.l, .int .i64 n.b, .int .i64 n.q, .int .i64 n.op, .string n.name, .int .i64 n.args] 47)) hb
          clear hb
          have hvg := heap_alloc_new w2 (.cells #[.string ⟨r.toArray⟩, .int .i64 7] 50)
          have hB5 : Below w.heap.size w (w2.alloc (.cells #[.string ⟨r.toArray⟩, .int .i64 7] 50)) := hbr2.alloc (by have := hbr2.size; omega) _
          have hsz5 : w.heap.size ≤ w2.heap.size := hbr2.size
          have hown4 := World.ownsRow.alloc hown2 (.cells #[.string ⟨r.toArray⟩, .int .i64 7] 50)
          go_wp2_with (at_builtin; go_loud (refine wpList_append_own_at _ rfl _ _ 37 rfl w.heap.size 50 i0 (.agg #[.string ⟨#[]⟩, .int .i64 0]) 2 24 Tryz.underlying37 hi hz0 hz1 hz2 rfl (by decide) _ _ _ rfl hown4 ⟨w2.heap.size, 0, none⟩ 1 1 [.string ⟨r.toArray⟩, .int .i64 7] rfl rfl (World.news_of_block hvg) (by simp [Value.oneCell']) (by unfold maxLen; omega) (by omega) (by simp; omega) ?_); intro v' w5 hown5 hgrow5 _ _)
          clear hvg
          have hbr5 : Below w.heap.size w w5 := hB5.grown hgrow5 (by simp; omega) (fun q hq => (World.ownsRow.lt hown4 q hq).1)
          clear hgrow5
          go_roundw
          case rel => exact ⟨j + 1, stepT T n, by omega, by go_num, Lib.hid hRd.put, hRd.len, hRd.tot, by rw [hstH.out]; unfold OwnTL; rw [List.length_append, ← tl_new _ _ _ _ (rfl)]; exact hown5, hbr5⟩
          case measure => simp [intOf]; omega
      · as_aux_lemma =>
          have fk1 : (n.kind == 1) = false := by rw [hk]; rfl
          have fk2 : (n.kind == 2) = false := by rw [hk]; rfl
          have fk3 : (n.kind == 3) = true := by rw [hk]; rfl
          obtain ⟨r, hr⟩ : ∃ r, nameRectZ n.t n.l n.b n.q = r := ⟨_, rfl⟩
          have CL : ∀ w0 : World, Tab w0 → Calls Tryz.prog 13 #[.agg #[.int .i64 n.t, .int .i64 n.l, .int .i64 n.b, .int .i64 n.q]] w0 fun e w' => e = .returned (.string ⟨r.toArray⟩) ∧ Below w0.heap.size w0 w' := fun w0 h0 => by rw [← hr]; exact nameR_any n.t n.l n.b n.q w0 h0
          have CLH := Lib.hid CL
          have hstH := Lib.hid (((stepT_rect hk).trans (by rw [hr])) : stepT T n = T ++ [⟨r, 7⟩])
          clear CL hr hk
          go_wp2_with fail
          go_at_call 13
          refine (CLH.out _ (Tab.below ht (by (repeat (first | (with_reducible exact Below.refl _ _) | (with_reducible refine Below.alloc ?_ (by first | omega | (dsimp only; omega) | (simp <;> omega)) _) | (with_reducible refine Below.setCell ?_ (by first | omega | (dsimp only; omega) | (simp <;> omega)) _) | (with_reducible refine Below.drew ?_) | (with_reducible refine below_drewN ?_ _) | (with_reducible refine Below.trans ?_ (Below.mono (by assumption) (by first | omega | (dsimp only; omega) | (simp <;> omega))))))))).mono ?_
          rintro e w2 ⟨rfl, hb⟩
          have hbr2 : Below w.heap.size w w2 := (hbr.alloc hzr (.cells #[.int .i64 n.kind, .int .i64 n.v.t, .int .i64 n.v.n, .string n.v.s, .bool n.v.b, .int .i64 n.v.c, .int .i64 n.r, .int .i64 n.c, .int .i64 n.t, .int .i64 n.l, .int .i64 n.b, .int .i64 n.q, .int .i64 n.op, .string n.name, .int .i64 n.args] 47)).trans (hb.mono (by simp; omega))
          have hown2 : w2.ownsRow w.heap.size 50 2 _ T.length (tlRow T) := ownsRow_below (World.ownsRow.alloc hown (.cells #[.int .i64 n.kind, .int .i64 n.v.t, .int .i64 n.v.n, .string n.v.s, .bool n.v.b, .int .i64 n.v.c, .int .i64 n.r, .int .i64 n.c, .int .i64 n.t, .int .i64 n.l, .int .i64 n.b, .int .i64 n.q, .int .i64 n.op, .string n.name, .int .i64 n.args] 47)) hb
          clear hb
          have hvg := heap_alloc_new w2 (.cells #[.string ⟨r.toArray⟩, .int .i64 7] 50)
          have hB5 : Below w.heap.size w (w2.alloc (.cells #[.string ⟨r.toArray⟩, .int .i64 7] 50)) := hbr2.alloc (by have := hbr2.size; omega) _
          have hsz5 : w.heap.size ≤ w2.heap.size := hbr2.size
          have hown4 := World.ownsRow.alloc hown2 (.cells #[.string ⟨r.toArray⟩, .int .i64 7] 50)
          go_wp2_with (at_builtin; go_loud (refine wpList_append_own_at _ rfl _ _ 37 rfl w.heap.size 50 i0 (.agg #[.string ⟨#[]⟩, .int .i64 0]) 2 24 Tryz.underlying37 hi hz0 hz1 hz2 rfl (by decide) _ _ _ rfl hown4 ⟨w2.heap.size, 0, none⟩ 1 1 [.string ⟨r.toArray⟩, .int .i64 7] rfl rfl (World.news_of_block hvg) (by simp [Value.oneCell']) (by unfold maxLen; omega) (by omega) (by simp; omega) ?_); intro v' w5 hown5 hgrow5 _ _)
          clear hvg
          have hbr5 : Below w.heap.size w w5 := hB5.grown hgrow5 (by simp; omega) (fun q hq => (World.ownsRow.lt hown4 q hq).1)
          clear hgrow5
          go_roundw
          case rel => exact ⟨j + 1, stepT T n, by omega, by go_num, Lib.hid hRd.put, hRd.len, hRd.tot, by rw [hstH.out]; unfold OwnTL; rw [List.length_append, ← tl_new _ _ _ _ (rfl)]; exact hown5, hbr5⟩
          case measure => simp [intOf]; omega
      · have fk1 : (n.kind == 1) = false := by rw [hk]; rfl
        have fk2 : (n.kind == 2) = false := by rw [hk]; rfl
        have fk3 : (n.kind == 3) = false := by rw [hk]; rfl
        have fk4 : (n.kind == 4) = true := by rw [hk]; rfl
        obtain ⟨hop1, hop2⟩ := op_of hRd.may hk
        obtain ⟨sg, hsg⟩ : ∃ sg, opT n.op = sg := ⟨_, rfl⟩
        have hsgl : sg.length ≤ 2 := hsg ▸ sign_len n.op
        obtain ⟨lv, hlv⟩ : ∃ lv, levelI n.op = lv := ⟨_, rfl⟩
        have hlvb : 1 ≤ lv ∧ lv ≤ 6 := by rw [← hlv]; unfold levelI; (repeat' split) <;> omega
        have CS : ∀ w0 : World, Calls Tryz.prog 14 #[.int .i64 n.op] w0 fun e w' => e = .returned (.tuple #[.string ⟨sg.toArray⟩, .int .i64 lv]) ∧ w0 = w' := fun w0 => by rw [← hsg, ← hlv]; exact prsign n.op hop1 hop2 w0
        have CSH := Lib.hid CS
        clear CS
        by_cases ho : n.op = 1
        · as_aux_lemma =>
            obtain ⟨S, x, rfl⟩ := hRd.one hk
            obtain ⟨p, hp⟩ : ∃ p, S.length = p := ⟨_, rfl⟩
            have hp1 : (S ++ [x]).length = p + 1 := by rw [List.length_append, hp]; rfl
            rw [hp1] at hTl
            have hxl : x.text.length ≤ 3000000000 := by
              rw [totT_app, totT_one] at htot
              omega
            obtain ⟨r, hr⟩ : ∃ r, x.at' lv = r := ⟨_, rfl⟩
            have hrl : r.length ≤ 3000000002 := by have := at_len x lv; rw [hr] at this; omega
            have CA : ∀ w0 : World, Calls Tryz.prog 15 #[.agg #[.string ⟨x.text.toArray⟩, .int .i64 x.binds], .int .i64 lv] w0 fun e w' => e = .returned (.string ⟨r.toArray⟩) ∧ Below w0.heap.size w0 w' := fun w0 => prat x lv (by omega) r hr w0
            have CAH := Lib.hid CA
            have hstH := Lib.hid (((stepT_neg hk ho).trans (by rw [hsg, hlv, hr])) : stepT (S ++ [x]) n = S ++ [⟨sg ++ r, lv⟩])
            have hopf : (n.op == 1) = true := by simp [ho]
            skip
            rcases (OwnTL.form hown hp1) with ⟨h0, _⟩ | ⟨g, cap', rfl, hBg, hgw, hle, hrow⟩
            · omega
            have hq0 : wr.cell? ⟨g, p * 2, none⟩ = some (.string ⟨x.text.toArray⟩) := by
              rw [hrow _ (by omega)]
              have := tlRow_at S [x] p 0 hp x rfl 0 _ rfl
              rw [← this]; first | done | rfl | (congr 1; omega) | (congr 1 <;> omega)
            have hq1 : wr.cell? ⟨g, p * 2 + 1, none⟩ = some (.int .i64 x.binds) := by
              rw [hrow _ (by omega)]
              have := tlRow_at S [x] p 0 hp x rfl 1 _ rfl
              rw [← this]; first | done | rfl | (congr 1; omega) | (congr 1 <;> omega)
            have hownH := Lib.hid (OwnTL.as hown hp1)
            have hwk : IntKind.i64.wrap ((p : Int) + 1 - 1) = (p : Int) := by rw [IntWalk.i64_in _ (by omega)]; omega
            have hwp : IntKind.i64.wrap (p : Int) = (p : Int) := IntWalk.i64_in _ (by omega)
            have hi0 : (0 : Int) ≤ (p : Int) := by omega
            have hi1 : (p : Int) < (p : Int) + 1 := by omega
            have hgne : g ≠ wr.heap.size := by omega
            have hgne1 : g ≠ wr.heap.size + 1 := by omega
            clear hrow CA hr hsg hlv ho hown hop1 hop2 hk
            go_wp2_with fail
            go_at_call 14
            refine (CSH.out _).mono ?_
            rintro e w2 ⟨rfl, rfl⟩
            go_wp2_with fail
            go_at_call 15
            refine (CAH.out _).mono ?_
            rintro e w3 ⟨rfl, hb⟩
            have hbr3 : Below w.heap.size w w3 := ((hbr.alloc hzr (.cells #[.int .i64 n.kind, .int .i64 n.v.t, .int .i64 n.v.n, .string n.v.s, .bool n.v.b, .int .i64 n.v.c, .int .i64 n.r, .int .i64 n.c, .int .i64 n.t, .int .i64 n.l, .int .i64 n.b, .int .i64 n.q, .int .i64 n.op, .string n.name, .int .i64 n.args] 47)).alloc (by simp; omega) (.cells #[.string ⟨x.text.toArray⟩, .int .i64 x.binds] 50)).trans (hb.mono (by simp; omega))
            have hown3 : w3.ownsRow w.heap.size 50 2 (.slice (some ⟨g, 0, none⟩) (p + 1) cap') (p + 1) (tlRow (S ++ [x])) := ownsRow_below (World.ownsRow.alloc (World.ownsRow.alloc hownH.out (.cells #[.int .i64 n.kind, .int .i64 n.v.t, .int .i64 n.v.n, .string n.v.s, .bool n.v.b, .int .i64 n.v.c, .int .i64 n.r, .int .i64 n.c, .int .i64 n.t, .int .i64 n.l, .int .i64 n.b, .int .i64 n.q, .int .i64 n.op, .string n.name, .int .i64 n.args] 47)) (.cells #[.string ⟨x.text.toArray⟩, .int .i64 x.binds] 50)) hb
            have hcA : w3.cell? ⟨g, p * 2, none⟩ = some (.string ⟨x.text.toArray⟩) := (hb.cell (p := ⟨g, p * 2, none⟩) (by show g < (World.alloc _ _).heap.size; simp; omega)).trans (al_cell (by show g < (World.alloc _ _).heap.size; simp; omega) (al_cell hgw hq0))
            have hcB : w3.cell? ⟨g, p * 2 + 1, none⟩ = some (.int .i64 x.binds) := (hb.cell (p := ⟨g, p * 2 + 1, none⟩) (by show g < (World.alloc _ _).heap.size; simp; omega)).trans (al_cell (by show g < (World.alloc _ _).heap.size; simp; omega) (al_cell hgw hq1))
            have hfA := hown3.frozenAt (p * 2)
            have hfB := hown3.frozenAt (p * 2 + 1)
            have hs1 := (hown3.stored (p * 2) (.string (⟨sg.toArray⟩ ++ ⟨r.toArray⟩))).1
            have hs2 := Lib.hid (hs1.stored (p * 2 + 1) (.int .i64 lv)).1
            have hbs := Lib.hid ((hbr3.setCell (p := ⟨g, p * 2, none⟩) hBg (.string (⟨sg.toArray⟩ ++ ⟨r.toArray⟩))).setCell (p := ⟨g, p * 2 + 1, none⟩) hBg (.int .i64 lv))
            have hown3H := Lib.hid hown3
            clear hs1 hown3 hb hq0 hq1
            go_wp2
            skip
            go_roundw
            case rel => exact ⟨j + 1, stepT (S ++ [x]) n, by omega, by go_num, Lib.hid hRd.put, hRd.len, hRd.tot, by rw [hstH.out]; unfold OwnTL; rw [List.length_append, hp, ← tl_set S x p hp (⟨sg.toArray⟩ ++ ⟨r.toArray⟩) _ lv (cat2 _ _)]; exact hs2.out, hbs.out⟩
            case measure => simp [intOf]; omega
        by_cases ho2 : n.op = 2
        · have ho : n.op = 2 := ho2
          clear ho2
          as_aux_lemma =>
            obtain ⟨S, x, rfl⟩ := hRd.one hk
            obtain ⟨p, hp⟩ : ∃ p, S.length = p := ⟨_, rfl⟩
            have hp1 : (S ++ [x]).length = p + 1 := by rw [List.length_append, hp]; rfl
            rw [hp1] at hTl
            have hxl : x.text.length ≤ 3000000000 := by
              rw [totT_app, totT_one] at htot
              omega
            obtain ⟨r, hr⟩ : ∃ r, x.at' lv = r := ⟨_, rfl⟩
            have hrl : r.length ≤ 3000000002 := by have := at_len x lv; rw [hr] at this; omega
            have CA : ∀ w0 : World, Calls Tryz.prog 15 #[.agg #[.string ⟨x.text.toArray⟩, .int .i64 x.binds], .int .i64 lv] w0 fun e w' => e = .returned (.string ⟨r.toArray⟩) ∧ Below w0.heap.size w0 w' := fun w0 => prat x lv (by omega) r hr w0
            have CAH := Lib.hid CA
            have hstH := Lib.hid (((stepT_pct hk ho).trans (by rw [hsg, hlv, hr])) : stepT (S ++ [x]) n = S ++ [⟨r ++ sg, lv⟩])
            have hopf : (n.op == 1) = false ∧ (n.op == 2) = true := by simp [ho]
            obtain ⟨hopf, hopf2⟩ := hopf
            rcases (OwnTL.form hown hp1) with ⟨h0, _⟩ | ⟨g, cap', rfl, hBg, hgw, hle, hrow⟩
            · omega
            have hq0 : wr.cell? ⟨g, p * 2, none⟩ = some (.string ⟨x.text.toArray⟩) := by
              rw [hrow _ (by omega)]
              have := tlRow_at S [x] p 0 hp x rfl 0 _ rfl
              rw [← this]; first | done | rfl | (congr 1; omega) | (congr 1 <;> omega)
            have hq1 : wr.cell? ⟨g, p * 2 + 1, none⟩ = some (.int .i64 x.binds) := by
              rw [hrow _ (by omega)]
              have := tlRow_at S [x] p 0 hp x rfl 1 _ rfl
              rw [← this]; first | done | rfl | (congr 1; omega) | (congr 1 <;> omega)
            have hownH := Lib.hid (OwnTL.as hown hp1)
            have hwk : IntKind.i64.wrap ((p : Int) + 1 - 1) = (p : Int) := by rw [IntWalk.i64_in _ (by omega)]; omega
            have hwp : IntKind.i64.wrap (p : Int) = (p : Int) := IntWalk.i64_in _ (by omega)
            have hi0 : (0 : Int) ≤ (p : Int) := by omega
            have hi1 : (p : Int) < (p : Int) + 1 := by omega
            have hgne : g ≠ wr.heap.size := by omega
            have hgne1 : g ≠ wr.heap.size + 1 := by omega
            clear hrow CA hr hsg hlv ho hown hop1 hop2 hk
            go_wp2_with fail
            go_at_call 14
            refine (CSH.out _).mono ?_
            rintro e w2 ⟨rfl, rfl⟩
            go_wp2_with fail
            go_at_call 15
            refine (CAH.out _).mono ?_
            rintro e w3 ⟨rfl, hb⟩
            have hbr3 : Below w.heap.size w w3 := ((hbr.alloc hzr (.cells #[.int .i64 n.kind, .int .i64 n.v.t, .int .i64 n.v.n, .string n.v.s, .bool n.v.b, .int .i64 n.v.c, .int .i64 n.r, .int .i64 n.c, .int .i64 n.t, .int .i64 n.l, .int .i64 n.b, .int .i64 n.q, .int .i64 n.op, .string n.name, .int .i64 n.args] 47)).alloc (by simp; omega) (.cells #[.string ⟨x.text.toArray⟩, .int .i64 x.binds] 50)).trans (hb.mono (by simp; omega))
            have hown3 : w3.ownsRow w.heap.size 50 2 (.slice (some ⟨g, 0, none⟩) (p + 1) cap') (p + 1) (tlRow (S ++ [x])) := ownsRow_below (World.ownsRow.alloc (World.ownsRow.alloc hownH.out (.cells #[.int .i64 n.kind, .int .i64 n.v.t, .int .i64 n.v.n, .string n.v.s, .bool n.v.b, .int .i64 n.v.c, .int .i64 n.r, .int .i64 n.c, .int .i64 n.t, .int .i64 n.l, .int .i64 n.b, .int .i64 n.q, .int .i64 n.op, .string n.name, .int .i64 n.args] 47)) (.cells #[.string ⟨x.text.toArray⟩, .int .i64 x.binds] 50)) hb
            have hcA : w3.cell? ⟨g, p * 2, none⟩ = some (.string ⟨x.text.toArray⟩) := (hb.cell (p := ⟨g, p * 2, none⟩) (by show g < (World.alloc _ _).heap.size; simp; omega)).trans (al_cell (by show g < (World.alloc _ _).heap.size; simp; omega) (al_cell hgw hq0))
            have hcB : w3.cell? ⟨g, p * 2 + 1, none⟩ = some (.int .i64 x.binds) := (hb.cell (p := ⟨g, p * 2 + 1, none⟩) (by show g < (World.alloc _ _).heap.size; simp; omega)).trans (al_cell (by show g < (World.alloc _ _).heap.size; simp; omega) (al_cell hgw hq1))
            have hfA := hown3.frozenAt (p * 2)
            have hfB := hown3.frozenAt (p * 2 + 1)
            have hs1 := (hown3.stored (p * 2) (.string (⟨r.toArray⟩ ++ ⟨sg.toArray⟩))).1
            have hs2 := Lib.hid (hs1.stored (p * 2 + 1) (.int .i64 lv)).1
            have hbs := Lib.hid ((hbr3.setCell (p := ⟨g, p * 2, none⟩) hBg (.string (⟨r.toArray⟩ ++ ⟨sg.toArray⟩))).setCell (p := ⟨g, p * 2 + 1, none⟩) hBg (.int .i64 lv))
            have hown3H := Lib.hid hown3
            clear hs1 hown3 hb hq0 hq1
            go_wp2
            skip
            go_roundw
            case rel => exact ⟨j + 1, stepT (S ++ [x]) n, by omega, by go_num, Lib.hid hRd.put, hRd.len, hRd.tot, by rw [hstH.out]; unfold OwnTL; rw [List.length_append, hp, ← tl_set S x p hp (⟨r.toArray⟩ ++ ⟨sg.toArray⟩) _ lv (cat2 _ _)]; exact hs2.out, hbs.out⟩
            case measure => simp [intOf]; omega
        have ho : ¬ (n.op = 1 ∨ n.op = 2) := by omega
        clear ho2
        as_aux_lemma =>
          obtain ⟨S, x, y, rfl⟩ := hRd.two hk ho
          obtain ⟨p, hp⟩ : ∃ p, S.length = p := ⟨_, rfl⟩
          have hp1 : (S ++ [x, y]).length = p + 2 := by rw [List.length_append, hp]; rfl
          rw [hp1] at hTl
          have hxl : x.text.length ≤ 3000000000 ∧ y.text.length ≤ 3000000000 := by
            rw [two_eq] at htot
            omega
          obtain ⟨rx, hrx⟩ : ∃ r, x.at' lv = r := ⟨_, rfl⟩
          have hrxl : rx.length ≤ 3000000002 := by have := at_len x lv; rw [hrx] at this; omega
          obtain ⟨ry, hry⟩ : ∃ r, y.at' (lv + 1) = r := ⟨_, rfl⟩
          have hryl : ry.length ≤ 3000000002 := by have := at_len y (lv + 1); rw [hry] at this; omega
          have CX : ∀ w0 : World, Calls Tryz.prog 15 #[.agg #[.string ⟨x.text.toArray⟩, .int .i64 x.binds], .int .i64 lv] w0 fun e w' => e = .returned (.string ⟨rx.toArray⟩) ∧ Below w0.heap.size w0 w' := fun w0 => prat x lv (by omega) rx hrx w0
          have CXH := Lib.hid CX
          have CY : ∀ w0 : World, Calls Tryz.prog 15 #[.agg #[.string ⟨y.text.toArray⟩, .int .i64 y.binds], .int .i64 (lv + 1)] w0 fun e w' => e = .returned (.string ⟨ry.toArray⟩) ∧ Below w0.heap.size w0 w' := fun w0 => prat y (lv + 1) (by omega) ry hry w0
          have CYH := Lib.hid CY
          have hstH := Lib.hid (((stepT_two hk (by omega) (by omega)).trans (by rw [hsg, hlv, hrx, hry])) : stepT (S ++ [x, y]) n = S ++ [⟨rx ++ sg ++ ry, lv⟩])
          have hopf : (n.op == 1) = false ∧ (n.op == 2) = false := by constructor <;> (simp; omega)
          obtain ⟨hopf, hopf2⟩ := hopf
          rcases (OwnTL.form hown hp1) with ⟨h0, _⟩ | ⟨g, cap', rfl, hBg, hgw, hle, hrow⟩
          · omega
          have hq0 : wr.cell? ⟨g, p * 2, none⟩ = some (.string ⟨x.text.toArray⟩) := by
            rw [hrow _ (by omega)]
            have := tlRow_at S [x, y] p 0 hp x rfl 0 _ rfl
            rw [← this]; first | done | rfl | (congr 1; omega) | (congr 1 <;> omega)
          have hq1 : wr.cell? ⟨g, p * 2 + 1, none⟩ = some (.int .i64 x.binds) := by
            rw [hrow _ (by omega)]
            have := tlRow_at S [x, y] p 0 hp x rfl 1 _ rfl
            rw [← this]; first | done | rfl | (congr 1; omega) | (congr 1 <;> omega)
          have hv0 : wr.cell? ⟨g, (p + 1) * 2, none⟩ = some (.string ⟨y.text.toArray⟩) := by
            rw [hrow _ (by omega)]
            have := tlRow_at S [x, y] p 1 hp y rfl 0 _ rfl
            rw [← this]; first | done | rfl | (congr 1; omega) | (congr 1 <;> omega)
          have hv1 : wr.cell? ⟨g, (p + 1) * 2 + 1, none⟩ = some (.int .i64 y.binds) := by
            rw [hrow _ (by omega)]
            have := tlRow_at S [x, y] p 1 hp y rfl 1 _ rfl
            rw [← this]; first | done | rfl | (congr 1; omega) | (congr 1 <;> omega)
          have hcutH := Lib.hid (ownsRow_cut (ys := tlRow S) (zs := tlRow [x, y]) (m := p) (OwnTL.as hown hp1) (tlRow_app S [x, y]) (by rw [tlRow_len, hp]) (by omega) (fun e => by cases e))
          have hwk : IntKind.i64.wrap ((p : Int) + 2 - 1) = (p : Int) + 1 := by rw [IntWalk.i64_in _ (by omega)]; omega
          have hwk2 : IntKind.i64.wrap ((p : Int) + 2 - 2) = (p : Int) := by rw [IntWalk.i64_in _ (by omega)]; omega
          have hwp : IntKind.i64.wrap (p : Int) = (p : Int) := IntWalk.i64_in _ (by omega)
          have hwp1 : IntKind.i64.wrap ((p : Int) + 1) = (p : Int) + 1 := IntWalk.i64_in _ (by omega)
          have hwl : IntKind.i64.wrap (lv + 1) = lv + 1 := IntWalk.i64_in _ (by omega)
          have hi0 : (0 : Int) ≤ (p : Int) := by omega
          have hi1 : (p : Int) < (p : Int) + 2 := by omega
          have hi2 : (0 : Int) ≤ (p : Int) + 1 := by omega
          have hi3 : (p : Int) + 1 < (p : Int) + 2 := by omega
          have hgne : g ≠ wr.heap.size := by omega
          have hgne1 : g ≠ wr.heap.size + 1 := by omega
          have hgne2 : g ≠ wr.heap.size + 2 := by omega
          have hpc : p ≤ cap' := by omega
          clear hrow CX CY hrx hry hsg hlv ho hown hop1 hop2 hk
          go_wp2_with fail
          go_at_call 14
          refine (CSH.out _).mono ?_
          rintro e w2 ⟨rfl, rfl⟩
          go_wp2_with fail
          have bel_wz : Below w.heap.size w (((wr.alloc (.cells #[.int .i64 n.kind, .int .i64 n.v.t, .int .i64 n.v.n, .string n.v.s, .bool n.v.b, .int .i64 n.v.c, .int .i64 n.r, .int .i64 n.c, .int .i64 n.t, .int .i64 n.l, .int .i64 n.b, .int .i64 n.q, .int .i64 n.op, .string n.name, .int .i64 n.args] 47)).alloc (.cells #[.string ⟨y.text.toArray⟩, .int .i64 y.binds] 50)).alloc (.cells #[.string ⟨x.text.toArray⟩, .int .i64 x.binds] 50)) := (((hbr.alloc hzr (.cells #[.int .i64 n.kind, .int .i64 n.v.t, .int .i64 n.v.n, .string n.v.s, .bool n.v.b, .int .i64 n.v.c, .int .i64 n.r, .int .i64 n.c, .int .i64 n.t, .int .i64 n.l, .int .i64 n.b, .int .i64 n.q, .int .i64 n.op, .string n.name, .int .i64 n.args] 47)).alloc (by simp; omega) (.cells #[.string ⟨y.text.toArray⟩, .int .i64 y.binds] 50)).alloc (by simp; omega) (.cells #[.string ⟨x.text.toArray⟩, .int .i64 x.binds] 50))
          have own_wz : (((wr.alloc (.cells #[.int .i64 n.kind, .int .i64 n.v.t, .int .i64 n.v.n, .string n.v.s, .bool n.v.b, .int .i64 n.v.c, .int .i64 n.r, .int .i64 n.c, .int .i64 n.t, .int .i64 n.l, .int .i64 n.b, .int .i64 n.q, .int .i64 n.op, .string n.name, .int .i64 n.args] 47)).alloc (.cells #[.string ⟨y.text.toArray⟩, .int .i64 y.binds] 50)).alloc (.cells #[.string ⟨x.text.toArray⟩, .int .i64 x.binds] 50)).ownsRow w.heap.size 50 2 (.slice (some ⟨g, 0, none⟩) p cap') p (tlRow S) := World.ownsRow.alloc (World.ownsRow.alloc (World.ownsRow.alloc hcutH.out (.cells #[.int .i64 n.kind, .int .i64 n.v.t, .int .i64 n.v.n, .string n.v.s, .bool n.v.b, .int .i64 n.v.c, .int .i64 n.r, .int .i64 n.c, .int .i64 n.t, .int .i64 n.l, .int .i64 n.b, .int .i64 n.q, .int .i64 n.op, .string n.name, .int .i64 n.args] 47)) (.cells #[.string ⟨y.text.toArray⟩, .int .i64 y.binds] 50)) (.cells #[.string ⟨x.text.toArray⟩, .int .i64 x.binds] 50)
          have siz_wz : wr.heap.size + 3 ≤ (((wr.alloc (.cells #[.int .i64 n.kind, .int .i64 n.v.t, .int .i64 n.v.n, .string n.v.s, .bool n.v.b, .int .i64 n.v.c, .int .i64 n.r, .int .i64 n.c, .int .i64 n.t, .int .i64 n.l, .int .i64 n.b, .int .i64 n.q, .int .i64 n.op, .string n.name, .int .i64 n.args] 47)).alloc (.cells #[.string ⟨y.text.toArray⟩, .int .i64 y.binds] 50)).alloc (.cells #[.string ⟨x.text.toArray⟩, .int .i64 x.binds] 50)).heap.size := by simp
          have cy0_wz : (((wr.alloc (.cells #[.int .i64 n.kind, .int .i64 n.v.t, .int .i64 n.v.n, .string n.v.s, .bool n.v.b, .int .i64 n.v.c, .int .i64 n.r, .int .i64 n.c, .int .i64 n.t, .int .i64 n.l, .int .i64 n.b, .int .i64 n.q, .int .i64 n.op, .string n.name, .int .i64 n.args] 47)).alloc (.cells #[.string ⟨y.text.toArray⟩, .int .i64 y.binds] 50)).alloc (.cells #[.string ⟨x.text.toArray⟩, .int .i64 x.binds] 50)).cell? ⟨wr.heap.size + 1, 0, none⟩ = some (.string ⟨y.text.toArray⟩) := by simp [go_sem]
          have cy1_wz : (((wr.alloc (.cells #[.int .i64 n.kind, .int .i64 n.v.t, .int .i64 n.v.n, .string n.v.s, .bool n.v.b, .int .i64 n.v.c, .int .i64 n.r, .int .i64 n.c, .int .i64 n.t, .int .i64 n.l, .int .i64 n.b, .int .i64 n.q, .int .i64 n.op, .string n.name, .int .i64 n.args] 47)).alloc (.cells #[.string ⟨y.text.toArray⟩, .int .i64 y.binds] 50)).alloc (.cells #[.string ⟨x.text.toArray⟩, .int .i64 x.binds] 50)).cell? ⟨wr.heap.size + 1, 1, none⟩ = some (.int .i64 y.binds) := by simp [go_sem]
          have cx0_wz : (((wr.alloc (.cells #[.int .i64 n.kind, .int .i64 n.v.t, .int .i64 n.v.n, .string n.v.s, .bool n.v.b, .int .i64 n.v.c, .int .i64 n.r, .int .i64 n.c, .int .i64 n.t, .int .i64 n.l, .int .i64 n.b, .int .i64 n.q, .int .i64 n.op, .string n.name, .int .i64 n.args] 47)).alloc (.cells #[.string ⟨y.text.toArray⟩, .int .i64 y.binds] 50)).alloc (.cells #[.string ⟨x.text.toArray⟩, .int .i64 x.binds] 50)).cell? ⟨wr.heap.size + 2, 0, none⟩ = some (.string ⟨x.text.toArray⟩) := by simp [go_sem]
          have cx1_wz : (((wr.alloc (.cells #[.int .i64 n.kind, .int .i64 n.v.t, .int .i64 n.v.n, .string n.v.s, .bool n.v.b, .int .i64 n.v.c, .int .i64 n.r, .int .i64 n.c, .int .i64 n.t, .int .i64 n.l, .int .i64 n.b, .int .i64 n.q, .int .i64 n.op, .string n.name, .int .i64 n.args] 47)).alloc (.cells #[.string ⟨y.text.toArray⟩, .int .i64 y.binds] 50)).alloc (.cells #[.string ⟨x.text.toArray⟩, .int .i64 x.binds] 50)).cell? ⟨wr.heap.size + 2, 1, none⟩ = some (.int .i64 x.binds) := by simp [go_sem]
          clear hq0 hq1 hv0 hv1
          have hcc1 : ¬ (9223372036854775807 < rx.length + sg.length) := by omega
          have hcc2 : ¬ (9223372036854775807 < rx.length + sg.length + ry.length) := by omega
          generalize (((wr.alloc (.cells #[.int .i64 n.kind, .int .i64 n.v.t, .int .i64 n.v.n, .string n.v.s, .bool n.v.b, .int .i64 n.v.c, .int .i64 n.r, .int .i64 n.c, .int .i64 n.t, .int .i64 n.l, .int .i64 n.b, .int .i64 n.q, .int .i64 n.op, .string n.name, .int .i64 n.args] 47)).alloc (.cells #[.string ⟨y.text.toArray⟩, .int .i64 y.binds] 50)).alloc (.cells #[.string ⟨x.text.toArray⟩, .int .i64 x.binds] 50)) = wz at *
          skip
          refine wp_region_noPanic ?_
          refine wp_region_held_drew (S := fun w' => w'.cell? ⟨wr.heap.size + 1, 0, none⟩ = some (.string ⟨y.text.toArray⟩) ∧ w'.cell? ⟨wr.heap.size + 1, 1, none⟩ = some (.int .i64 y.binds) ∧ w'.cell? ⟨wr.heap.size + 2, 0, none⟩ = some (.string ⟨x.text.toArray⟩) ∧ w'.cell? ⟨wr.heap.size + 2, 1, none⟩ = some (.int .i64 x.binds)) (by kernel_rfl) ⟨cy0_wz, cy1_wz, cx0_wz, cx1_wz⟩ (fun hHeld => ?_)
          refine wpAnyH_take (i := 0) (oi := ⟨_, _, _, _, _, _⟩) (v := ?v1) rfl (by kernel_rfl) (by kernel_rfl) (by kernel_rfl) (fun _ _ _ h => h) (Or.inl ⟨by rfl, ?hy1⟩) hHeld ?rest1
          case hy1 => (intro w2 hSw; (try dsimp only at hSw); go_split_ands; go_simp; first | done | with_reducible rfl)
          try simp only [Act.put, List.setIfInBounds_toArray, List.set_cons_zero, List.set_cons_succ]
          refine wpAnyH_take (i := 1) (oi := ⟨_, _, _, _, _, _⟩) (v := ?v2) rfl (by kernel_rfl) (by kernel_rfl) (by kernel_rfl) (fun _ _ _ h => h) (Or.inl ⟨by rfl, ?hy2⟩) hHeld ?rest2
          case hy2 => (intro w2 hSw; (try dsimp only at hSw); go_split_ands; go_simp; first | done | with_reducible rfl)
          try simp only [Act.put, List.setIfInBounds_toArray, List.set_cons_zero, List.set_cons_succ]
          refine wpAnyH_take (i := 2) (oi := ⟨_, _, _, _, _, _⟩) (v := ?v3) rfl (by kernel_rfl) (by kernel_rfl) (by kernel_rfl) (fun _ _ _ h => h) (Or.inl ⟨by rfl, ?hy3⟩) hHeld ?rest3
          case hy3 => (intro w2 hSw; (try dsimp only at hSw); go_split_ands; go_simp; first | done | with_reducible rfl)
          try simp only [Act.put, List.setIfInBounds_toArray, List.set_cons_zero, List.set_cons_succ]
          refine wpAnyH_take (i := 3) (oi := ⟨_, _, _, _, _, _⟩) (v := ?v4) rfl (by kernel_rfl) (by kernel_rfl) (by kernel_rfl) (fun _ _ _ h => h) (Or.inl ⟨by rfl, ?hy4⟩) hHeld ?rest4
          case hy4 => (intro w2 hSw; (try dsimp only at hSw); go_split_ands; go_simp; first | done | with_reducible rfl)
          try simp only [Act.put, List.setIfInBounds_toArray, List.set_cons_zero, List.set_cons_succ]
          refine wpAnyH_take (i := 4) (oi := ⟨_, _, _, _, _, _⟩) (v := ?v5) rfl (by kernel_rfl) (by kernel_rfl) (by kernel_rfl) (fun _ _ _ h => h) (Or.inl ⟨by rfl, ?hy5⟩) hHeld ?rest5
          case hy5 => (intro w2 hSw; (try dsimp only at hSw); go_split_ands; go_simp; first | done | with_reducible rfl)
          try simp only [Act.put, List.setIfInBounds_toArray, List.set_cons_zero, List.set_cons_succ]
          refine wpAnyH_take (i := 5) (oi := ⟨_, _, _, _, _, _⟩) (v := ?v6) rfl (by kernel_rfl) (by kernel_rfl) (by kernel_rfl) (fun _ _ _ h => h) (Or.inl ⟨by rfl, ?hy6⟩) hHeld ?rest6
          case hy6 => (intro w2 hSw; (try dsimp only at hSw); go_split_ands; go_simp; first | done | with_reducible rfl)
          try simp only [Act.put, List.setIfInBounds_toArray, List.set_cons_zero, List.set_cons_succ]
          refine wpAnyH_take (i := 6) (oi := ⟨_, _, _, _, _, _⟩) (v := ?v7) rfl (by kernel_rfl) (by kernel_rfl) (by kernel_rfl) (fun _ _ _ h => h) (Or.inl ⟨by rfl, ?hy7⟩) hHeld ?rest7
          case hy7 => (intro w2 hSw; (try dsimp only at hSw); go_split_ands; go_simp; first | done | with_reducible rfl)
          try simp only [Act.put, List.setIfInBounds_toArray, List.set_cons_zero, List.set_cons_succ]
          refine wpAnyH_take (i := 8) (oi := ⟨_, _, _, _, _, _⟩) (v := ?v8) rfl (by kernel_rfl) (by kernel_rfl) (by kernel_rfl) (fun _ _ _ h => h) (Or.inl ⟨by rfl, ?hy8⟩) hHeld ?rest8
          case hy8 => (intro w2 hSw; (try dsimp only at hSw); go_split_ands; go_simp; first | done | with_reducible rfl)
          try simp only [Act.put, List.setIfInBounds_toArray, List.set_cons_zero, List.set_cons_succ]
          refine wpAnyH_take (i := 10) (oi := ⟨_, _, _, _, _, _⟩) (v := ?v9) rfl (by kernel_rfl) (by kernel_rfl) (by kernel_rfl) (fun _ _ _ h => h) (Or.inl ⟨by rfl, ?hy9⟩) hHeld ?rest9
          case hy9 => (intro w2 hSw; (try dsimp only at hSw); go_split_ands; go_simp; first | done | with_reducible rfl)
          try simp only [Act.put, List.setIfInBounds_toArray, List.set_cons_zero, List.set_cons_succ]
          refine wpAnyH_take (i := 11) (oi := ⟨_, _, _, _, _, _⟩) (v := ?v10) rfl (by kernel_rfl) (by kernel_rfl) (by kernel_rfl) (fun _ _ _ h => h) (Or.inl ⟨by rfl, ?hy10⟩) hHeld ?rest10
          case hy10 => (intro w2 hSw; (try dsimp only at hSw); go_split_ands; go_simp; first | done | with_reducible rfl)
          try simp only [Act.put, List.setIfInBounds_toArray, List.set_cons_zero, List.set_cons_succ]
          refine wpAnyH_take (i := 12) (oi := ⟨_, _, _, _, _, _⟩) (v := ?v11) rfl (by kernel_rfl) (by kernel_rfl) (by kernel_rfl) (fun _ _ _ h => h) (Or.inl ⟨by rfl, ?hy11⟩) hHeld ?rest11
          case hy11 => (intro w2 hSw; (try dsimp only at hSw); go_split_ands; go_simp; first | done | with_reducible rfl)
          try simp only [Act.put, List.setIfInBounds_toArray, List.set_cons_zero, List.set_cons_succ]
          refine wpAnyH_take (i := 15) (oi := ⟨_, _, _, _, _, _⟩) (v := ?v12) rfl (by kernel_rfl) (by kernel_rfl) (by kernel_rfl) (fun _ _ _ h => h) (Or.inl ⟨by rfl, ?hy12⟩) hHeld ?rest12
          case hy12 => (intro w2 hSw; (try dsimp only at hSw); go_split_ands; go_simp; first | done | with_reducible rfl)
          try simp only [Act.put, List.setIfInBounds_toArray, List.set_cons_zero, List.set_cons_succ]
          refine wpAnyH_ready (rs := [7]) (by kernel_rfl) (by simp) ?_
          refine AllReadyH.cons (o := ⟨_, _, _, _, _, _⟩) rfl (fun K hK => ?_) AllReadyH.nil
          go_split_ands
          go_simp
          refine (CXH.out _).mono ?_
          rintro e w3 ⟨rfl, hb0⟩
          have hb : Below wz.heap.size wz w3 := ((Below.refl wz.heap.size wz).drew).trans hb0
          have own_w3 := ownsRow_below own_wz hb
          have bel_w3 : Below w.heap.size w w3 := bel_wz.trans (hb.mono bel_wz.size)
          have siz_w3 : wr.heap.size + 3 ≤ w3.heap.size := Nat.le_trans siz_wz hb.size
          have cy0_w3 := (hb.cell (p := ⟨wr.heap.size + 1, 0, none⟩) (by dsimp only; omega)).trans cy0_wz
          have cy1_w3 := (hb.cell (p := ⟨wr.heap.size + 1, 1, none⟩) (by dsimp only; omega)).trans cy1_wz
          have cx0_w3 := (hb.cell (p := ⟨wr.heap.size + 2, 0, none⟩) (by dsimp only; omega)).trans cx0_wz
          have cx1_w3 := (hb.cell (p := ⟨wr.heap.size + 2, 1, none⟩) (by dsimp only; omega)).trans cx1_wz
          refine hK.out _ _ ⟨cy0_w3, cy1_w3, cx0_w3, cx1_w3⟩ (fun hHeld => ?_)
          clear hK K hb hb0
          try simp only [Act.put, List.setIfInBounds_toArray, List.set_cons_zero, List.set_cons_succ]
          refine wpAnyH_take (i := 9) (oi := ⟨_, _, _, _, _, _⟩) (v := ?v13) rfl (by kernel_rfl) (by kernel_rfl) (by kernel_rfl) (fun _ _ _ h => h) (Or.inl ⟨by rfl, ?hy13⟩) hHeld ?rest13
          case hy13 => (intro w2 hSw; (try dsimp only at hSw); go_split_ands; go_simp; first | done | with_reducible rfl)
          try simp only [Act.put, List.setIfInBounds_toArray, List.set_cons_zero, List.set_cons_succ]
          refine wpAnyH_ready (rs := [13]) (by kernel_rfl) (by simp) ?_
          refine AllReadyH.cons (o := ⟨_, _, _, _, _, _⟩) rfl (fun K hK => ?_) AllReadyH.nil
          go_split_ands
          go_simp
          refine (CYH.out _).mono ?_
          rintro e w4 ⟨rfl, hb0⟩
          have hb : Below w3.heap.size w3 w4 := hb0
          have own_w4 := ownsRow_below own_w3 hb
          have bel_w4 : Below w.heap.size w w4 := bel_w3.trans (hb.mono bel_w3.size)
          have siz_w4 : wr.heap.size + 3 ≤ w4.heap.size := Nat.le_trans siz_w3 hb.size
          have cy0_w4 := (hb.cell (p := ⟨wr.heap.size + 1, 0, none⟩) (by dsimp only; omega)).trans cy0_w3
          have cy1_w4 := (hb.cell (p := ⟨wr.heap.size + 1, 1, none⟩) (by dsimp only; omega)).trans cy1_w3
          have cx0_w4 := (hb.cell (p := ⟨wr.heap.size + 2, 0, none⟩) (by dsimp only; omega)).trans cx0_w3
          have cx1_w4 := (hb.cell (p := ⟨wr.heap.size + 2, 1, none⟩) (by dsimp only; omega)).trans cx1_w3
          refine hK.out _ _ ⟨cy0_w4, cy1_w4, cx0_w4, cx1_w4⟩ (fun hHeld => ?_)
          clear hK K hb hb0
          try simp only [Act.put, List.setIfInBounds_toArray, List.set_cons_zero, List.set_cons_succ]
          refine wpAnyH_take (i := 14) (oi := ⟨_, _, _, _, _, _⟩) (v := ?v14) rfl (by kernel_rfl) (by kernel_rfl) (by kernel_rfl) (fun _ _ _ h => h) (Or.inl ⟨by rfl, ?hy14⟩) hHeld ?rest14
          case hy14 => (intro w2 hSw; (try dsimp only at hSw); go_split_ands; go_simp; first | done | with_reducible rfl)
          try simp only [Act.put, List.setIfInBounds_toArray, List.set_cons_zero, List.set_cons_succ]
          refine wpAnyH_take (i := 16) (oi := ⟨_, _, _, _, _, _⟩) (v := ?v15) rfl (by kernel_rfl) (by kernel_rfl) (by kernel_rfl) (fun _ _ _ h => h) (Or.inl ⟨by rfl, ?hy15⟩) hHeld ?rest15
          case hy15 => (intro w2 hSw; (try dsimp only at hSw); go_split_ands; go_simp; first | done | with_reducible rfl)
          try simp only [Act.put, List.setIfInBounds_toArray, List.set_cons_zero, List.set_cons_succ]
          refine wpAnyH_ready (rs := [17]) (by kernel_rfl) (by simp) ?_
          refine AllReadyH.cons (o := ⟨_, _, _, _, _, _⟩) rfl (fun K hK => ?_) AllReadyH.nil
          go_split_ands
          go_simp
          have own_w6 := World.ownsRow.alloc own_w4 (.cells #[.string (⟨rx.toArray⟩ ++ ⟨sg.toArray⟩ ++ ⟨ry.toArray⟩), .int .i64 lv] 50)
          have hvg := heap_alloc_new w4 (.cells #[.string (⟨rx.toArray⟩ ++ ⟨sg.toArray⟩ ++ ⟨ry.toArray⟩), .int .i64 lv] 50)
          refine hK.out _ _ ⟨al_cell (by dsimp only; omega) cy0_w4, al_cell (by dsimp only; omega) cy1_w4, al_cell (by dsimp only; omega) cx0_w4, al_cell (by dsimp only; omega) cx1_w4⟩ (fun hHeld => ?_)
          clear hK K
          try simp only [Act.put, List.setIfInBounds_toArray, List.set_cons_zero, List.set_cons_succ]
          refine wpAnyH_ready (rs := [18]) (by kernel_rfl) (by simp) ?_
          refine AllReadyH.cons (o := ⟨_, _, _, _, _, _⟩) rfl (fun K hK => ?_) AllReadyH.nil
          refine step_append_lies _ (by rfl) _ _ _ (by rfl) w.heap.size 50 i0 _ 2 24 Tryz.underlying37 hi hz0 hz1 hz2 rfl (by omega) (.slice (some ⟨g, 0, none⟩) p cap') p (tlRow S) (by rfl) own_w6 ⟨w4.heap.size, 0, none⟩ 1 1 [.string (⟨rx.toArray⟩ ++ ⟨sg.toArray⟩ ++ ⟨ry.toArray⟩), .int .i64 lv] (by rfl) (by rfl) (World.news_of_block hvg) (by simp [Value.oneCell']) (by omega) (by unfold maxLen; omega) (by omega) (by have := bel_w4.size; simp; omega) (w4.heap.size + 1) (by simp) ?_
          intro g5 cap5 w5 hown5 hgrow5 hat5 hlt5
          have hbr5 : Below w.heap.size w w5 := (bel_w4.alloc (by have := bel_w4.size; omega) _).grown hgrow5 (by have := bel_w4.size; simp; omega) (fun q hq => (World.ownsRow.lt own_w6 q hq).1)
          have cy0_w5 := (hgrow5.cell_far ⟨wr.heap.size + 1, 0, none⟩ (by show _ < (World.alloc _ _).heap.size; simp; omega) (by intro e; have e : wr.heap.size + 1 = g := Option.some.inj e; omega)).trans (al_cell (by dsimp only; omega) cy0_w4)
          have cy1_w5 := (hgrow5.cell_far ⟨wr.heap.size + 1, 1, none⟩ (by show _ < (World.alloc _ _).heap.size; simp; omega) (by intro e; have e : wr.heap.size + 1 = g := Option.some.inj e; omega)).trans (al_cell (by dsimp only; omega) cy1_w4)
          have cx0_w5 := (hgrow5.cell_far ⟨wr.heap.size + 2, 0, none⟩ (by show _ < (World.alloc _ _).heap.size; simp; omega) (by intro e; have e : wr.heap.size + 2 = g := Option.some.inj e; omega)).trans (al_cell (by dsimp only; omega) cx0_w4)
          have cx1_w5 := (hgrow5.cell_far ⟨wr.heap.size + 2, 1, none⟩ (by show _ < (World.alloc _ _).heap.size; simp; omega) (by intro e; have e : wr.heap.size + 2 = g := Option.some.inj e; omega)).trans (al_cell (by dsimp only; omega) cx1_w4)
          refine hK.out _ _ ⟨cy0_w5, cy1_w5, cx0_w5, cx1_w5⟩ (fun hHeld => ?_)
          clear hK K hgrow5
          try simp only [Act.put, List.setIfInBounds_toArray, List.set_cons_zero, List.set_cons_succ]
          refine wpAnyH_take (i := 19) (oi := ⟨_, _, _, _, _, _⟩) (v := ?v16) rfl (by kernel_rfl) (by kernel_rfl) (by kernel_rfl) (fun _ _ _ h => h) (Or.inl ⟨by rfl, ?hy16⟩) hHeld ?rest16
          case hy16 => (intro w2 hSw; (try dsimp only at hSw); go_split_ands; go_simp; first | done | with_reducible rfl)
          try simp only [Act.put, List.setIfInBounds_toArray, List.set_cons_zero, List.set_cons_succ]
          refine wpAnyH_done (by kernel_rfl) ?_ _
          refine NoPanic.normal ?_
          go_wp2
          go_roundw
          case rel => exact ⟨j + 1, stepT (S ++ [x, y]) n, by omega, by go_num, Lib.hid hRd.put, hRd.len, hRd.tot, by rw [hstH.out]; unfold OwnTL; rw [List.length_append, hp, ← tl_new S (⟨rx.toArray⟩ ++ ⟨sg.toArray⟩ ++ ⟨ry.toArray⟩) (rx ++ sg ++ ry) lv (by rw [cat2, cat2])]; exact hown5, hbr5⟩
          case measure => simp [intOf]; omega
      · as_aux_lemma =>
          have fk1 : (n.kind == 1) = false := by rw [hk]; rfl
          have fk2 : (n.kind == 2) = false := by rw [hk]; rfl
          have fk3 : (n.kind == 3) = false := by rw [hk]; rfl
          have fk4 : (n.kind == 4) = false := by rw [hk]; rfl
          obtain ⟨wo, rfl⟩ : ∃ wo, wo = wr := ⟨_, rfl⟩
          obtain ⟨S, U, rfl, hU⟩ := hRd.call hk
          obtain ⟨ha0, ha1, ha2⟩ := args_of hRd.may hk
          have hnl : n.name.data.toList.length ≤ 16 := by
            unfold namedB at ha2
            simp only [Bool.and_eq_true, decide_eq_true_eq] at ha2
            exact ha2.1.1.1.1.2
          have hns2 : n.name.size ≤ 16 := by
            have h9 : n.name.data.toList.length = n.name.size := by rw [Array.length_toList]; rfl
            omega
          obtain ⟨k, hka⟩ : ∃ k : Nat, n.args = k := ⟨n.args.toNat, by omega⟩
          have hk16 : k ≤ 16 := by omega
          have hUk : U.length = k := by omega
          rw [hka] at hc14
          obtain ⟨p, hp⟩ : ∃ p, S.length = p := ⟨_, rfl⟩
          have hpk : (S ++ U).length = p + k := by rw [List.length_append]; omega
          rw [hpk] at hTl
          have htU : totT U ≤ 3000000000 := by rw [totT_app] at htot; omega
          have hjl := join_len U
          obtain ⟨d, hd⟩ : ∃ d, n.name.data.toList ++ 40 :: (joinT U ++ [41]) = d := ⟨_, rfl⟩
          have hdl : d.length ≤ 3000000100 := by rw [← hd, List.length_append, List.length_cons, List.length_append, List.length_singleton]; omega
          have hstH := Lib.hid (((stepT_call hk hU).trans (by rw [hd])) : stepT (S ++ U) n = S ++ [⟨d, 7⟩])
          have hdH := Lib.hid hd
          have hownH := Lib.hid (OwnTL.as hown hpk)
          clear hd ha0 ha1 ha2 hka hU hk
          have hI0 : Lib.IsBuilderF 59 5 (wo.heap.size + 1) (wo.heap.size + 1) (Lib.byteCells ([])) ((wo.alloc (.cells #[.int .i64 n.kind, .int .i64 n.v.t, .int .i64 n.v.n, .string n.v.s, .bool n.v.b, .int .i64 n.v.c, .int .i64 n.r, .int .i64 n.c, .int .i64 n.t, .int .i64 n.l, .int .i64 n.b, .int .i64 n.q, .int .i64 n.op, .string n.name, .int .i64 (k : Int)] 47)).alloc (.cells #[.pointer none, .slice none 0 0] 59)) := by
            have h9 := Lib.IsBuilderF.of (Lib.fresh_isBuilder 59 5 (wo.alloc (.cells #[.int .i64 n.kind, .int .i64 n.v.t, .int .i64 n.v.n, .string n.v.s, .bool n.v.b, .int .i64 n.v.c, .int .i64 n.r, .int .i64 n.c, .int .i64 n.t, .int .i64 n.l, .int .i64 n.b, .int .i64 n.q, .int .i64 n.op, .string n.name, .int .i64 (k : Int)] 47)))
            simp only [World.size_alloc] at h9
            exact h9
          have hb0 : Below (wo.heap.size + 1) (wo.alloc (.cells #[.int .i64 n.kind, .int .i64 n.v.t, .int .i64 n.v.n, .string n.v.s, .bool n.v.b, .int .i64 n.v.c, .int .i64 n.r, .int .i64 n.c, .int .i64 n.t, .int .i64 n.l, .int .i64 n.b, .int .i64 n.q, .int .i64 n.op, .string n.name, .int .i64 (k : Int)] 47)) ((wo.alloc (.cells #[.int .i64 n.kind, .int .i64 n.v.t, .int .i64 n.v.n, .string n.v.s, .bool n.v.b, .int .i64 n.v.c, .int .i64 n.r, .int .i64 n.c, .int .i64 n.t, .int .i64 n.l, .int .i64 n.b, .int .i64 n.q, .int .i64 n.op, .string n.name, .int .i64 (k : Int)] 47)).alloc (.cells #[.pointer none, .slice none 0 0] 59)) := (Below.refl _ _).alloc (by simp) _
          go_wp2_with fail
          go_at_call 16
          refine (lwrites (wo.heap.size + 1) [] n.name (by simp; omega) _ (by simp) hI0).mono ?_
          rintro e w2 ⟨rfl, hI2, hb2⟩
          rw [List.nil_append] at hI2
          have hbw2 : Below (wo.heap.size + 1) (wo.alloc (.cells #[.int .i64 n.kind, .int .i64 n.v.t, .int .i64 n.v.n, .string n.v.s, .bool n.v.b, .int .i64 n.v.c, .int .i64 n.r, .int .i64 n.c, .int .i64 n.t, .int .i64 n.l, .int .i64 n.b, .int .i64 n.q, .int .i64 n.op, .string n.name, .int .i64 (k : Int)] 47)) w2 := hb0.trans hb2
          have hz2 : wo.heap.size + 1 < w2.heap.size := isB_lt hI2
          clear hI0 hb0 hb2
          go_wp2_with fail
          go_at_call 17
          refine (lwrite (wo.heap.size + 1) n.name.data.toList 40 (by omega) _ (by omega) hI2).mono ?_
          rintro e w3 ⟨rfl, hI3, hb3⟩
          have hbw3 : Below (wo.heap.size + 1) (wo.alloc (.cells #[.int .i64 n.kind, .int .i64 n.v.t, .int .i64 n.v.n, .string n.v.s, .bool n.v.b, .int .i64 n.v.c, .int .i64 n.r, .int .i64 n.c, .int .i64 n.t, .int .i64 n.l, .int .i64 n.b, .int .i64 n.q, .int .i64 n.op, .string n.name, .int .i64 (k : Int)] 47)) w3 := hbw2.trans hb3
          have hz3 : wo.heap.size + 1 < w3.heap.size := isB_lt hI3
          have hx14 : w3.cell? ⟨wo.heap.size, 14, none⟩ = some (.int .i64 (k : Int)) := (hbw3.cell (p := ⟨wo.heap.size, 14, none⟩) (by dsimp only; omega)).trans (by simp [go_sem])
          have hbr3 : Below w.heap.size w w3 := (hbr.alloc hzr (.cells #[.int .i64 n.kind, .int .i64 n.v.t, .int .i64 n.v.n, .string n.v.s, .bool n.v.b, .int .i64 n.v.c, .int .i64 n.r, .int .i64 n.c, .int .i64 n.t, .int .i64 n.l, .int .i64 n.b, .int .i64 n.q, .int .i64 n.op, .string n.name, .int .i64 (k : Int)] 47)).trans (hbw3.mono (by omega))
          have hown3 := ownsRow_keep (World.ownsRow.alloc hownH.out (.cells #[.int .i64 n.kind, .int .i64 n.v.t, .int .i64 n.v.n, .string n.v.s, .bool n.v.b, .int .i64 n.v.c, .int .i64 n.r, .int .i64 n.c, .int .i64 n.t, .int .i64 n.l, .int .i64 n.b, .int .i64 n.q, .int .i64 n.op, .string n.name, .int .i64 (k : Int)] 47)) hbw3 (fun q hq => by have := (World.ownsRow.lt hownH.out q hq).2; omega)
          have hglt' := own_lt hownH.out (B2 := wo.heap.size) (Nat.le_refl _)
          clear hI2 hbw2 hz2 hb3 hbw3 hownH hc0 hc1 hc2 hc3 hc4 hc5 hc6 hc7 hc8 hc9 hc10 hc11 hc12 hc13 hc14 hns2
          by_cases hk0 : k = 0
          · subst hk0
            obtain rfl : U = [] := List.eq_nil_of_length_eq_zero hUk
            have hpk : (S ++ []).length = p := by rw [List.append_nil]; exact hp
            have hx14 : w3.cell? ⟨wo.heap.size, 14, none⟩ = some (.int .i64 0) := hx14
            rw [Nat.add_zero] at hown3
            have hownO := OwnTL.of hown3 hpk
            clear hown3
            rcases hownO.form hpk with ⟨h0, rfl⟩ | ⟨g, cap', rfl, hBg, hgw, hle, hrow⟩
            · subst h0
              as_aux_lemma =>
                have hwp : IntKind.i64.wrap (0 : Int) = (0 : Int) := IntWalk.i64_in _ (by omega)
                have hi0 : (0 : Int) ≤ (0 : Int) := by omega
                skip
                skip
                go_wp2_with fail
                go_loopw [41] (fun i wq => i = .int .i64 0 ∧ Lib.IsBuilderF 59 5 (wo.heap.size + 1) (wo.heap.size + 1) (Lib.byteCells (n.name.data.toList ++ 40 :: joinT [])) wq ∧ Below (wo.heap.size + 1) w3 wq) (fun _ _ => 0)
                case atStart => exact ⟨rfl, hI3, Below.refl _ _⟩
                case round =>
                  obtain ⟨rfl, hIq, hbq⟩ := hrel
                  have hzq : wo.heap.size + 1 < wr.heap.size := isB_lt hIq
                  go_wp2_with fail
                  go_at_call 17
                  refine (lwrite (wo.heap.size + 1) (n.name.data.toList ++ 40 :: joinT []) 41 (by simp only [List.length_append, List.length_cons]; first | omega | (simp [joinT]; omega)) _ (by omega) hIq).mono ?_
                  rintro e w4 ⟨rfl, hI4, hb4⟩
                  have hbq4 : Below (wo.heap.size + 1) w3 w4 := hbq.trans hb4
                  have belW : Below w.heap.size w w4 := hbr3.trans (hbq4.mono (by omega))
                  have hz4 : wo.heap.size + 1 < w4.heap.size := isB_lt hI4
                  have hargW : w4.cell? ⟨wo.heap.size, 14, none⟩ = some (.int .i64 0) := (hbq4.cell (p := ⟨wo.heap.size, 14, none⟩) (by dsimp only; omega)).trans hx14
                  have hIW : Lib.IsBuilderF 59 5 (wo.heap.size + 1) (wo.heap.size + 1) (Lib.byteCells (d)) w4 := by rw [← hdH.out]; have h9 := hI4; rw [List.append_assoc] at h9; exact h9
                  have hown4 := ownsRow_keep (OwnTL.as hownO hpk) hbq4 (fun q hq => Nat.lt_succ_of_lt (hglt' q hq))
                  have hcut := ownsRow_cut (ys := tlRow S) (zs := tlRow []) (m := 0) hown4 (tlRow_app S _) (by rw [tlRow_len, hp]) (by omega) (fun _ => rfl)
                  have hcutlt : ∀ q, (Value.slice none 0 0 : Value).ownBlock = some q → q < wo.heap.size + 1 := fun q hq => by cases hq
                  clear hI4 hb4 hbq4 hown4 hIq hbq
                  go_wp2_with fail
                  refine wp_region_noPanic ?_
                  refine wp_region_held_drew (S := fun w' => w'.cell? ⟨wo.heap.size, 14, none⟩ = some (.int .i64 0)) (by kernel_rfl) hargW (fun hHeld => ?_)
                  refine wpAnyH_take (i := 0) (oi := ⟨_, _, _, _, _, _⟩) (v := ?v26) rfl (by kernel_rfl) (by kernel_rfl) (by kernel_rfl) (fun _ _ _ h => h) (Or.inl ⟨by rfl, ?hy26⟩) hHeld ?rest26
                  case hy26 => (intro w2 hSw; (try dsimp only at hSw); go_split_ands; go_simp; first | done | with_reducible rfl)
                  try simp only [Act.put, List.setIfInBounds_toArray, List.set_cons_zero, List.set_cons_succ]
                  refine wpAnyH_take (i := 1) (oi := ⟨_, _, _, _, _, _⟩) (v := ?v27) rfl (by kernel_rfl) (by kernel_rfl) (by kernel_rfl) (fun _ _ _ h => h) (Or.inl ⟨by rfl, ?hy27⟩) hHeld ?rest27
                  case hy27 => (intro w2 hSw; (try dsimp only at hSw); go_split_ands; go_simp; first | done | with_reducible rfl)
                  try simp only [Act.put, List.setIfInBounds_toArray, List.set_cons_zero, List.set_cons_succ]
                  refine wpAnyH_take (i := 2) (oi := ⟨_, _, _, _, _, _⟩) (v := ?v28) rfl (by kernel_rfl) (by kernel_rfl) (by kernel_rfl) (fun _ _ _ h => h) (Or.inl ⟨by rfl, ?hy28⟩) hHeld ?rest28
                  case hy28 => (intro w2 hSw; (try dsimp only at hSw); go_split_ands; go_simp; first | done | with_reducible rfl)
                  try simp only [Act.put, List.setIfInBounds_toArray, List.set_cons_zero, List.set_cons_succ]
                  refine wpAnyH_take (i := 3) (oi := ⟨_, _, _, _, _, _⟩) (v := ?v29) rfl (by kernel_rfl) (by kernel_rfl) (by kernel_rfl) (fun _ _ _ h => h) (Or.inl ⟨by rfl, ?hy29⟩) hHeld ?rest29
                  case hy29 => (intro w2 hSw; (try dsimp only at hSw); go_split_ands; go_simp; first | done | with_reducible rfl)
                  try simp only [Act.put, List.setIfInBounds_toArray, List.set_cons_zero, List.set_cons_succ]
                  refine wpAnyH_take (i := 4) (oi := ⟨_, _, _, _, _, _⟩) (v := ?v30) rfl (by kernel_rfl) (by kernel_rfl) (by kernel_rfl) (fun _ _ _ h => h) (Or.inl ⟨by rfl, ?hy30⟩) hHeld ?rest30
                  case hy30 => (intro w2 hSw; (try dsimp only at hSw); go_split_ands; go_simp; first | done | with_reducible rfl)
                  try simp only [Act.put, List.setIfInBounds_toArray, List.set_cons_zero, List.set_cons_succ]
                  refine wpAnyH_take (i := 5) (oi := ⟨_, _, _, _, _, _⟩) (v := ?v31) rfl (by kernel_rfl) (by kernel_rfl) (by kernel_rfl) (fun _ _ _ h => h) (Or.inl ⟨by rfl, ?hy31⟩) hHeld ?rest31
                  case hy31 => (intro w2 hSw; (try dsimp only at hSw); go_split_ands; go_simp; first | done | with_reducible rfl)
                  try simp only [Act.put, List.setIfInBounds_toArray, List.set_cons_zero, List.set_cons_succ]
                  refine wpAnyH_take (i := 6) (oi := ⟨_, _, _, _, _, _⟩) (v := ?v32) rfl (by kernel_rfl) (by kernel_rfl) (by kernel_rfl) (fun _ _ _ h => h) (Or.inl ⟨by rfl, ?hy32⟩) hHeld ?rest32
                  case hy32 => (intro w2 hSw; (try dsimp only at hSw); go_split_ands; go_simp; first | done | with_reducible rfl)
                  try simp only [Act.put, List.setIfInBounds_toArray, List.set_cons_zero, List.set_cons_succ]
                  refine wpAnyH_ready (rs := [7]) (by kernel_rfl) (by simp) ?_
                  refine AllReadyH.cons (o := ⟨_, _, _, _, _, _⟩) rfl (fun K hK => ?_) AllReadyH.nil
                  go_split_ands
                  go_simp
                  refine (bstring_any (wo.heap.size + 1) d _ rfl _ (by simp; omega) (isB_later hIW ((Below.refl _ _).drew))).mono ?_
                  rintro e w6 ⟨rfl, _, hb0⟩
                  have hb : Below (wo.heap.size + 1) w4 w6 := ((Below.refl _ _).drew).trans hb0
                  have own_6 := ownsRow_keep hcut hb hcutlt
                  have bel_6 : Below w.heap.size w w6 := belW.trans (hb.mono (by omega))
                  have siz_6 : wo.heap.size + 1 < w6.heap.size := by have := hb.size; omega
                  have arg_6 := (hb.cell (p := ⟨wo.heap.size, 14, none⟩) (by dsimp only; omega)).trans hargW
                  refine hK.out _ _ arg_6 (fun hHeld => ?_)
                  clear hK K hb hb0
                  try simp only [Act.put, List.setIfInBounds_toArray, List.set_cons_zero, List.set_cons_succ]
                  refine wpAnyH_take (i := 8) (oi := ⟨_, _, _, _, _, _⟩) (v := ?v33) rfl (by kernel_rfl) (by kernel_rfl) (by kernel_rfl) (fun _ _ _ h => h) (Or.inl ⟨by rfl, ?hy33⟩) hHeld ?rest33
                  case hy33 => (intro w2 hSw; (try dsimp only at hSw); go_split_ands; go_simp; first | done | with_reducible rfl)
                  try simp only [Act.put, List.setIfInBounds_toArray, List.set_cons_zero, List.set_cons_succ]
                  refine wpAnyH_ready (rs := [9]) (by kernel_rfl) (by simp) ?_
                  refine AllReadyH.cons (o := ⟨_, _, _, _, _, _⟩) rfl (fun K hK => ?_) AllReadyH.nil
                  go_split_ands
                  go_simp
                  have own_7 := World.ownsRow.alloc own_6 (.cells #[.string ⟨d.toArray⟩, .int .i64 7] 50)
                  have hvg := heap_alloc_new w6 (.cells #[.string ⟨d.toArray⟩, .int .i64 7] 50)
                  refine hK.out _ _ (al_cell (by dsimp only; omega) arg_6) (fun hHeld => ?_)
                  clear hK K
                  try simp only [Act.put, List.setIfInBounds_toArray, List.set_cons_zero, List.set_cons_succ]
                  refine wpAnyH_ready (rs := [10]) (by kernel_rfl) (by simp) ?_
                  refine AllReadyH.cons (o := ⟨_, _, _, _, _, _⟩) rfl (fun K hK => ?_) AllReadyH.nil
                  refine step_append_lies _ (by rfl) _ _ _ (by rfl) w.heap.size 50 i0 _ 2 24 Tryz.underlying37 hi hz0 hz1 hz2 rfl (by omega) (.slice none 0 0) 0 (tlRow S) (by rfl) own_7 ⟨w6.heap.size, 0, none⟩ 1 1 [.string ⟨d.toArray⟩, .int .i64 7] (by rfl) (by rfl) (World.news_of_block hvg) (by simp [Value.oneCell']) (by omega) (by unfold maxLen; omega) (by omega) (by have := bel_6.size; simp; omega) (w6.heap.size + 1) (by simp) ?_
                  intro g5 cap5 w5 hown5 hgrow5 hat5 hlt5
                  have hbr5 : Below w.heap.size w w5 := (bel_6.alloc (by have := bel_6.size; omega) _).grown hgrow5 (by have := bel_6.size; simp; omega) (fun q hq => (World.ownsRow.lt own_7 q hq).1)
                  have arg_5 := (hgrow5.cell_far ⟨wo.heap.size, 14, none⟩ (by show _ < (World.alloc _ _).heap.size; simp; omega) (by intro e; cases e)).trans (al_cell (by dsimp only; omega) arg_6)
                  refine hK.out _ _ arg_5 (fun hHeld => ?_)
                  clear hK K hgrow5
                  try simp only [Act.put, List.setIfInBounds_toArray, List.set_cons_zero, List.set_cons_succ]
                  refine wpAnyH_take (i := 11) (oi := ⟨_, _, _, _, _, _⟩) (v := ?v34) rfl (by kernel_rfl) (by kernel_rfl) (by kernel_rfl) (fun _ _ _ h => h) (Or.inl ⟨by rfl, ?hy34⟩) hHeld ?rest34
                  case hy34 => (intro w2 hSw; (try dsimp only at hSw); go_split_ands; go_simp; first | done | with_reducible rfl)
                  try simp only [Act.put, List.setIfInBounds_toArray, List.set_cons_zero, List.set_cons_succ]
                  refine wpAnyH_done (by kernel_rfl) ?_ _
                  refine NoPanic.normal ?_
                  go_wp2
                  go_roundw
                  case rel => exact ⟨j + 1, stepT _ n, by omega, by go_num, Lib.hid hRd.put, hRd.len, hRd.tot, by rw [hstH.out]; unfold OwnTL; rw [List.length_append, hp, ← tl_new S _ _ 7 rfl]; exact hown5, hbr5⟩
                  case measure => simp [intOf]; omega
            clear hrow
            have hglt := hglt' g rfl
            by_cases hcp : cap' = p
            · obtain rfl : p = cap' := hcp.symm
              as_aux_lemma =>
                have hwp : IntKind.i64.wrap (p : Int) = (p : Int) := IntWalk.i64_in _ (by omega)
                have hi0 : (0 : Int) ≤ (p : Int) := by omega
                have hgq : g < wo.heap.size + 1 := Nat.lt_succ_of_lt hglt
                have hpc : p ≤ p := by omega
                go_wp2_with fail
                go_loopw [41] (fun i wq => i = .int .i64 0 ∧ Lib.IsBuilderF 59 5 (wo.heap.size + 1) (wo.heap.size + 1) (Lib.byteCells (n.name.data.toList ++ 40 :: joinT [])) wq ∧ Below (wo.heap.size + 1) w3 wq) (fun _ _ => 0)
                case atStart => exact ⟨rfl, hI3, Below.refl _ _⟩
                case round =>
                  obtain ⟨rfl, hIq, hbq⟩ := hrel
                  have hzq : wo.heap.size + 1 < wr.heap.size := isB_lt hIq
                  go_wp2_with fail
                  go_at_call 17
                  refine (lwrite (wo.heap.size + 1) (n.name.data.toList ++ 40 :: joinT []) 41 (by simp only [List.length_append, List.length_cons]; first | omega | (simp [joinT]; omega)) _ (by omega) hIq).mono ?_
                  rintro e w4 ⟨rfl, hI4, hb4⟩
                  have hbq4 : Below (wo.heap.size + 1) w3 w4 := hbq.trans hb4
                  have belW : Below w.heap.size w w4 := hbr3.trans (hbq4.mono (by omega))
                  have hz4 : wo.heap.size + 1 < w4.heap.size := isB_lt hI4
                  have hargW : w4.cell? ⟨wo.heap.size, 14, none⟩ = some (.int .i64 0) := (hbq4.cell (p := ⟨wo.heap.size, 14, none⟩) (by dsimp only; omega)).trans hx14
                  have hIW : Lib.IsBuilderF 59 5 (wo.heap.size + 1) (wo.heap.size + 1) (Lib.byteCells (d)) w4 := by rw [← hdH.out]; have h9 := hI4; rw [List.append_assoc] at h9; exact h9
                  have hown4 := ownsRow_keep (OwnTL.as hownO hpk) hbq4 (fun q hq => Nat.lt_succ_of_lt (hglt' q hq))
                  have hcut := ownsRow_cut (ys := tlRow S) (zs := tlRow []) (m := p) hown4 (tlRow_app S _) (by rw [tlRow_len, hp]) (by omega) (fun e => by cases e)
                  have hcutlt : ∀ q, (.slice (some ⟨g, 0, none⟩) p p : Value).ownBlock = some q → q < wo.heap.size + 1 := fun q hq => by have h8 : g = q := Option.some.inj hq; omega
                  clear hI4 hb4 hbq4 hown4 hIq hbq
                  go_wp2_with fail
                  refine wp_region_noPanic ?_
                  refine wp_region_held_drew (S := fun w' => w'.cell? ⟨wo.heap.size, 14, none⟩ = some (.int .i64 0)) (by kernel_rfl) hargW (fun hHeld => ?_)
                  refine wpAnyH_take (i := 0) (oi := ⟨_, _, _, _, _, _⟩) (v := ?v35) rfl (by kernel_rfl) (by kernel_rfl) (by kernel_rfl) (fun _ _ _ h => h) (Or.inl ⟨by rfl, ?hy35⟩) hHeld ?rest35
                  case hy35 => (intro w2 hSw; (try dsimp only at hSw); go_split_ands; go_simp; first | done | with_reducible rfl)
                  try simp only [Act.put, List.setIfInBounds_toArray, List.set_cons_zero, List.set_cons_succ]
                  refine wpAnyH_take (i := 1) (oi := ⟨_, _, _, _, _, _⟩) (v := ?v36) rfl (by kernel_rfl) (by kernel_rfl) (by kernel_rfl) (fun _ _ _ h => h) (Or.inl ⟨by rfl, ?hy36⟩) hHeld ?rest36
                  case hy36 => (intro w2 hSw; (try dsimp only at hSw); go_split_ands; go_simp; first | done | with_reducible rfl)
                  try simp only [Act.put, List.setIfInBounds_toArray, List.set_cons_zero, List.set_cons_succ]
                  refine wpAnyH_take (i := 2) (oi := ⟨_, _, _, _, _, _⟩) (v := ?v37) rfl (by kernel_rfl) (by kernel_rfl) (by kernel_rfl) (fun _ _ _ h => h) (Or.inl ⟨by rfl, ?hy37⟩) hHeld ?rest37
                  case hy37 => (intro w2 hSw; (try dsimp only at hSw); go_split_ands; go_simp; first | done | with_reducible rfl)
                  try simp only [Act.put, List.setIfInBounds_toArray, List.set_cons_zero, List.set_cons_succ]
                  refine wpAnyH_take (i := 3) (oi := ⟨_, _, _, _, _, _⟩) (v := ?v38) rfl (by kernel_rfl) (by kernel_rfl) (by kernel_rfl) (fun _ _ _ h => h) (Or.inl ⟨by rfl, ?hy38⟩) hHeld ?rest38
                  case hy38 => (intro w2 hSw; (try dsimp only at hSw); go_split_ands; go_simp; first | done | with_reducible rfl)
                  try simp only [Act.put, List.setIfInBounds_toArray, List.set_cons_zero, List.set_cons_succ]
                  refine wpAnyH_take (i := 4) (oi := ⟨_, _, _, _, _, _⟩) (v := ?v39) rfl (by kernel_rfl) (by kernel_rfl) (by kernel_rfl) (fun _ _ _ h => h) (Or.inl ⟨by rfl, ?hy39⟩) hHeld ?rest39
                  case hy39 => (intro w2 hSw; (try dsimp only at hSw); go_split_ands; go_simp; first | done | with_reducible rfl)
                  try simp only [Act.put, List.setIfInBounds_toArray, List.set_cons_zero, List.set_cons_succ]
                  refine wpAnyH_take (i := 5) (oi := ⟨_, _, _, _, _, _⟩) (v := ?v40) rfl (by kernel_rfl) (by kernel_rfl) (by kernel_rfl) (fun _ _ _ h => h) (Or.inl ⟨by rfl, ?hy40⟩) hHeld ?rest40
                  case hy40 => (intro w2 hSw; (try dsimp only at hSw); go_split_ands; go_simp; first | done | with_reducible rfl)
                  try simp only [Act.put, List.setIfInBounds_toArray, List.set_cons_zero, List.set_cons_succ]
                  refine wpAnyH_take (i := 6) (oi := ⟨_, _, _, _, _, _⟩) (v := ?v41) rfl (by kernel_rfl) (by kernel_rfl) (by kernel_rfl) (fun _ _ _ h => h) (Or.inl ⟨by rfl, ?hy41⟩) hHeld ?rest41
                  case hy41 => (intro w2 hSw; (try dsimp only at hSw); go_split_ands; go_simp; first | done | with_reducible rfl)
                  try simp only [Act.put, List.setIfInBounds_toArray, List.set_cons_zero, List.set_cons_succ]
                  refine wpAnyH_ready (rs := [7]) (by kernel_rfl) (by simp) ?_
                  refine AllReadyH.cons (o := ⟨_, _, _, _, _, _⟩) rfl (fun K hK => ?_) AllReadyH.nil
                  go_split_ands
                  go_simp
                  refine (bstring_any (wo.heap.size + 1) d _ rfl _ (by simp; omega) (isB_later hIW ((Below.refl _ _).drew))).mono ?_
                  rintro e w6 ⟨rfl, _, hb0⟩
                  have hb : Below (wo.heap.size + 1) w4 w6 := ((Below.refl _ _).drew).trans hb0
                  have own_6 := ownsRow_keep hcut hb hcutlt
                  have bel_6 : Below w.heap.size w w6 := belW.trans (hb.mono (by omega))
                  have siz_6 : wo.heap.size + 1 < w6.heap.size := by have := hb.size; omega
                  have arg_6 := (hb.cell (p := ⟨wo.heap.size, 14, none⟩) (by dsimp only; omega)).trans hargW
                  refine hK.out _ _ arg_6 (fun hHeld => ?_)
                  clear hK K hb hb0
                  try simp only [Act.put, List.setIfInBounds_toArray, List.set_cons_zero, List.set_cons_succ]
                  refine wpAnyH_take (i := 8) (oi := ⟨_, _, _, _, _, _⟩) (v := ?v42) rfl (by kernel_rfl) (by kernel_rfl) (by kernel_rfl) (fun _ _ _ h => h) (Or.inl ⟨by rfl, ?hy42⟩) hHeld ?rest42
                  case hy42 => (intro w2 hSw; (try dsimp only at hSw); go_split_ands; go_simp; first | done | with_reducible rfl)
                  try simp only [Act.put, List.setIfInBounds_toArray, List.set_cons_zero, List.set_cons_succ]
                  refine wpAnyH_ready (rs := [9]) (by kernel_rfl) (by simp) ?_
                  refine AllReadyH.cons (o := ⟨_, _, _, _, _, _⟩) rfl (fun K hK => ?_) AllReadyH.nil
                  go_split_ands
                  go_simp
                  have own_7 := World.ownsRow.alloc own_6 (.cells #[.string ⟨d.toArray⟩, .int .i64 7] 50)
                  have hvg := heap_alloc_new w6 (.cells #[.string ⟨d.toArray⟩, .int .i64 7] 50)
                  refine hK.out _ _ (al_cell (by dsimp only; omega) arg_6) (fun hHeld => ?_)
                  clear hK K
                  try simp only [Act.put, List.setIfInBounds_toArray, List.set_cons_zero, List.set_cons_succ]
                  refine wpAnyH_ready (rs := [10]) (by kernel_rfl) (by simp) ?_
                  refine AllReadyH.cons (o := ⟨_, _, _, _, _, _⟩) rfl (fun K hK => ?_) AllReadyH.nil
                  refine step_append_lies _ (by rfl) _ _ _ (by rfl) w.heap.size 50 i0 _ 2 24 Tryz.underlying37 hi hz0 hz1 hz2 rfl (by omega) (.slice (some ⟨g, 0, none⟩) p p) p (tlRow S) (by rfl) own_7 ⟨w6.heap.size, 0, none⟩ 1 1 [.string ⟨d.toArray⟩, .int .i64 7] (by rfl) (by rfl) (World.news_of_block hvg) (by simp [Value.oneCell']) (by omega) (by unfold maxLen; omega) (by omega) (by have := bel_6.size; simp; omega) (w6.heap.size + 1) (by simp) ?_
                  intro g5 cap5 w5 hown5 hgrow5 hat5 hlt5
                  have hbr5 : Below w.heap.size w w5 := (bel_6.alloc (by have := bel_6.size; omega) _).grown hgrow5 (by have := bel_6.size; simp; omega) (fun q hq => (World.ownsRow.lt own_7 q hq).1)
                  have arg_5 := (hgrow5.cell_far ⟨wo.heap.size, 14, none⟩ (by show _ < (World.alloc _ _).heap.size; simp; omega) (by intro e; have e : wo.heap.size = g := Option.some.inj e; omega)).trans (al_cell (by dsimp only; omega) arg_6)
                  refine hK.out _ _ arg_5 (fun hHeld => ?_)
                  clear hK K hgrow5
                  try simp only [Act.put, List.setIfInBounds_toArray, List.set_cons_zero, List.set_cons_succ]
                  refine wpAnyH_take (i := 11) (oi := ⟨_, _, _, _, _, _⟩) (v := ?v43) rfl (by kernel_rfl) (by kernel_rfl) (by kernel_rfl) (fun _ _ _ h => h) (Or.inl ⟨by rfl, ?hy43⟩) hHeld ?rest43
                  case hy43 => (intro w2 hSw; (try dsimp only at hSw); go_split_ands; go_simp; first | done | with_reducible rfl)
                  try simp only [Act.put, List.setIfInBounds_toArray, List.set_cons_zero, List.set_cons_succ]
                  refine wpAnyH_done (by kernel_rfl) ?_ _
                  refine NoPanic.normal ?_
                  go_wp2
                  go_roundw
                  case rel => exact ⟨j + 1, stepT _ n, by omega, by go_num, Lib.hid hRd.put, hRd.len, hRd.tot, by rw [hstH.out]; unfold OwnTL; rw [List.length_append, hp, ← tl_new S _ _ 7 rfl]; exact hown5, hbr5⟩
                  case measure => simp [intOf]; omega
            · as_aux_lemma =>
                have hwp : IntKind.i64.wrap (p : Int) = (p : Int) := IntWalk.i64_in _ (by omega)
                have hi0 : (0 : Int) ≤ (p : Int) := by omega
                have hgq : g < wo.heap.size + 1 := Nat.lt_succ_of_lt hglt
                have hpc : p ≤ cap' := by omega
                go_wp2_with fail
                go_loopw [41] (fun i wq => i = .int .i64 0 ∧ Lib.IsBuilderF 59 5 (wo.heap.size + 1) (wo.heap.size + 1) (Lib.byteCells (n.name.data.toList ++ 40 :: joinT [])) wq ∧ Below (wo.heap.size + 1) w3 wq) (fun _ _ => 0)
                case atStart => exact ⟨rfl, hI3, Below.refl _ _⟩
                case round =>
                  obtain ⟨rfl, hIq, hbq⟩ := hrel
                  have hzq : wo.heap.size + 1 < wr.heap.size := isB_lt hIq
                  go_wp2_with fail
                  go_at_call 17
                  refine (lwrite (wo.heap.size + 1) (n.name.data.toList ++ 40 :: joinT []) 41 (by simp only [List.length_append, List.length_cons]; first | omega | (simp [joinT]; omega)) _ (by omega) hIq).mono ?_
                  rintro e w4 ⟨rfl, hI4, hb4⟩
                  have hbq4 : Below (wo.heap.size + 1) w3 w4 := hbq.trans hb4
                  have belW : Below w.heap.size w w4 := hbr3.trans (hbq4.mono (by omega))
                  have hz4 : wo.heap.size + 1 < w4.heap.size := isB_lt hI4
                  have hargW : w4.cell? ⟨wo.heap.size, 14, none⟩ = some (.int .i64 0) := (hbq4.cell (p := ⟨wo.heap.size, 14, none⟩) (by dsimp only; omega)).trans hx14
                  have hIW : Lib.IsBuilderF 59 5 (wo.heap.size + 1) (wo.heap.size + 1) (Lib.byteCells (d)) w4 := by rw [← hdH.out]; have h9 := hI4; rw [List.append_assoc] at h9; exact h9
                  have hown4 := ownsRow_keep (OwnTL.as hownO hpk) hbq4 (fun q hq => Nat.lt_succ_of_lt (hglt' q hq))
                  have hcut := ownsRow_cut (ys := tlRow S) (zs := tlRow []) (m := p) hown4 (tlRow_app S _) (by rw [tlRow_len, hp]) (by omega) (fun e => by cases e)
                  have hcutlt : ∀ q, (.slice (some ⟨g, 0, none⟩) p cap' : Value).ownBlock = some q → q < wo.heap.size + 1 := fun q hq => by have h8 : g = q := Option.some.inj hq; omega
                  clear hI4 hb4 hbq4 hown4 hIq hbq
                  go_wp2_with fail
                  refine wp_region_noPanic ?_
                  refine wp_region_held_drew (S := fun w' => w'.cell? ⟨wo.heap.size, 14, none⟩ = some (.int .i64 0)) (by kernel_rfl) hargW (fun hHeld => ?_)
                  refine wpAnyH_take (i := 0) (oi := ⟨_, _, _, _, _, _⟩) (v := ?v44) rfl (by kernel_rfl) (by kernel_rfl) (by kernel_rfl) (fun _ _ _ h => h) (Or.inl ⟨by rfl, ?hy44⟩) hHeld ?rest44
                  case hy44 => (intro w2 hSw; (try dsimp only at hSw); go_split_ands; go_simp; first | done | with_reducible rfl)
                  try simp only [Act.put, List.setIfInBounds_toArray, List.set_cons_zero, List.set_cons_succ]
                  refine wpAnyH_take (i := 1) (oi := ⟨_, _, _, _, _, _⟩) (v := ?v45) rfl (by kernel_rfl) (by kernel_rfl) (by kernel_rfl) (fun _ _ _ h => h) (Or.inl ⟨by rfl, ?hy45⟩) hHeld ?rest45
                  case hy45 => (intro w2 hSw; (try dsimp only at hSw); go_split_ands; go_simp; first | done | with_reducible rfl)
                  try simp only [Act.put, List.setIfInBounds_toArray, List.set_cons_zero, List.set_cons_succ]
                  refine wpAnyH_take (i := 2) (oi := ⟨_, _, _, _, _, _⟩) (v := ?v46) rfl (by kernel_rfl) (by kernel_rfl) (by kernel_rfl) (fun _ _ _ h => h) (Or.inl ⟨by rfl, ?hy46⟩) hHeld ?rest46
                  case hy46 => (intro w2 hSw; (try dsimp only at hSw); go_split_ands; go_simp; first | done | with_reducible rfl)
                  try simp only [Act.put, List.setIfInBounds_toArray, List.set_cons_zero, List.set_cons_succ]
                  refine wpAnyH_take (i := 3) (oi := ⟨_, _, _, _, _, _⟩) (v := ?v47) rfl (by kernel_rfl) (by kernel_rfl) (by kernel_rfl) (fun _ _ _ h => h) (Or.inl ⟨by rfl, ?hy47⟩) hHeld ?rest47
                  case hy47 => (intro w2 hSw; (try dsimp only at hSw); go_split_ands; go_simp; first | done | with_reducible rfl)
                  try simp only [Act.put, List.setIfInBounds_toArray, List.set_cons_zero, List.set_cons_succ]
                  refine wpAnyH_take (i := 4) (oi := ⟨_, _, _, _, _, _⟩) (v := ?v48) rfl (by kernel_rfl) (by kernel_rfl) (by kernel_rfl) (fun _ _ _ h => h) (Or.inl ⟨by rfl, ?hy48⟩) hHeld ?rest48
                  case hy48 => (intro w2 hSw; (try dsimp only at hSw); go_split_ands; go_simp; first | done | with_reducible rfl)
                  try simp only [Act.put, List.setIfInBounds_toArray, List.set_cons_zero, List.set_cons_succ]
                  refine wpAnyH_take (i := 5) (oi := ⟨_, _, _, _, _, _⟩) (v := ?v49) rfl (by kernel_rfl) (by kernel_rfl) (by kernel_rfl) (fun _ _ _ h => h) (Or.inl ⟨by rfl, ?hy49⟩) hHeld ?rest49
                  case hy49 => (intro w2 hSw; (try dsimp only at hSw); go_split_ands; go_simp; first | done | with_reducible rfl)
                  try simp only [Act.put, List.setIfInBounds_toArray, List.set_cons_zero, List.set_cons_succ]
                  refine wpAnyH_take (i := 6) (oi := ⟨_, _, _, _, _, _⟩) (v := ?v50) rfl (by kernel_rfl) (by kernel_rfl) (by kernel_rfl) (fun _ _ _ h => h) (Or.inl ⟨by rfl, ?hy50⟩) hHeld ?rest50
                  case hy50 => (intro w2 hSw; (try dsimp only at hSw); go_split_ands; go_simp; first | done | with_reducible rfl)
                  try simp only [Act.put, List.setIfInBounds_toArray, List.set_cons_zero, List.set_cons_succ]
                  refine wpAnyH_ready (rs := [7]) (by kernel_rfl) (by simp) ?_
                  refine AllReadyH.cons (o := ⟨_, _, _, _, _, _⟩) rfl (fun K hK => ?_) AllReadyH.nil
                  go_split_ands
                  go_simp
                  refine (bstring_any (wo.heap.size + 1) d _ rfl _ (by simp; omega) (isB_later hIW ((Below.refl _ _).drew))).mono ?_
                  rintro e w6 ⟨rfl, _, hb0⟩
                  have hb : Below (wo.heap.size + 1) w4 w6 := ((Below.refl _ _).drew).trans hb0
                  have own_6 := ownsRow_keep hcut hb hcutlt
                  have bel_6 : Below w.heap.size w w6 := belW.trans (hb.mono (by omega))
                  have siz_6 : wo.heap.size + 1 < w6.heap.size := by have := hb.size; omega
                  have arg_6 := (hb.cell (p := ⟨wo.heap.size, 14, none⟩) (by dsimp only; omega)).trans hargW
                  refine hK.out _ _ arg_6 (fun hHeld => ?_)
                  clear hK K hb hb0
                  try simp only [Act.put, List.setIfInBounds_toArray, List.set_cons_zero, List.set_cons_succ]
                  refine wpAnyH_take (i := 8) (oi := ⟨_, _, _, _, _, _⟩) (v := ?v51) rfl (by kernel_rfl) (by kernel_rfl) (by kernel_rfl) (fun _ _ _ h => h) (Or.inl ⟨by rfl, ?hy51⟩) hHeld ?rest51
                  case hy51 => (intro w2 hSw; (try dsimp only at hSw); go_split_ands; go_simp; first | done | with_reducible rfl)
                  try simp only [Act.put, List.setIfInBounds_toArray, List.set_cons_zero, List.set_cons_succ]
                  refine wpAnyH_ready (rs := [9]) (by kernel_rfl) (by simp) ?_
                  refine AllReadyH.cons (o := ⟨_, _, _, _, _, _⟩) rfl (fun K hK => ?_) AllReadyH.nil
                  go_split_ands
                  go_simp
                  have own_7 := World.ownsRow.alloc own_6 (.cells #[.string ⟨d.toArray⟩, .int .i64 7] 50)
                  have hvg := heap_alloc_new w6 (.cells #[.string ⟨d.toArray⟩, .int .i64 7] 50)
                  refine hK.out _ _ (al_cell (by dsimp only; omega) arg_6) (fun hHeld => ?_)
                  clear hK K
                  try simp only [Act.put, List.setIfInBounds_toArray, List.set_cons_zero, List.set_cons_succ]
                  refine wpAnyH_ready (rs := [10]) (by kernel_rfl) (by simp) ?_
                  refine AllReadyH.cons (o := ⟨_, _, _, _, _, _⟩) rfl (fun K hK => ?_) AllReadyH.nil
                  refine step_append_lies _ (by rfl) _ _ _ (by rfl) w.heap.size 50 i0 _ 2 24 Tryz.underlying37 hi hz0 hz1 hz2 rfl (by omega) (.slice (some ⟨g, 0, none⟩) p cap') p (tlRow S) (by rfl) own_7 ⟨w6.heap.size, 0, none⟩ 1 1 [.string ⟨d.toArray⟩, .int .i64 7] (by rfl) (by rfl) (World.news_of_block hvg) (by simp [Value.oneCell']) (by omega) (by unfold maxLen; omega) (by omega) (by have := bel_6.size; simp; omega) (w6.heap.size + 1) (by simp) ?_
                  intro g5 cap5 w5 hown5 hgrow5 hat5 hlt5
                  have hbr5 : Below w.heap.size w w5 := (bel_6.alloc (by have := bel_6.size; omega) _).grown hgrow5 (by have := bel_6.size; simp; omega) (fun q hq => (World.ownsRow.lt own_7 q hq).1)
                  have arg_5 := (hgrow5.cell_far ⟨wo.heap.size, 14, none⟩ (by show _ < (World.alloc _ _).heap.size; simp; omega) (by intro e; have e : wo.heap.size = g := Option.some.inj e; omega)).trans (al_cell (by dsimp only; omega) arg_6)
                  refine hK.out _ _ arg_5 (fun hHeld => ?_)
                  clear hK K hgrow5
                  try simp only [Act.put, List.setIfInBounds_toArray, List.set_cons_zero, List.set_cons_succ]
                  refine wpAnyH_take (i := 11) (oi := ⟨_, _, _, _, _, _⟩) (v := ?v52) rfl (by kernel_rfl) (by kernel_rfl) (by kernel_rfl) (fun _ _ _ h => h) (Or.inl ⟨by rfl, ?hy52⟩) hHeld ?rest52
                  case hy52 => (intro w2 hSw; (try dsimp only at hSw); go_split_ands; go_simp; first | done | with_reducible rfl)
                  try simp only [Act.put, List.setIfInBounds_toArray, List.set_cons_zero, List.set_cons_succ]
                  refine wpAnyH_done (by kernel_rfl) ?_ _
                  refine NoPanic.normal ?_
                  go_wp2
                  go_roundw
                  case rel => exact ⟨j + 1, stepT _ n, by omega, by go_num, Lib.hid hRd.put, hRd.len, hRd.tot, by rw [hstH.out]; unfold OwnTL; rw [List.length_append, hp, ← tl_new S _ _ 7 rfl]; exact hown5, hbr5⟩
                  case measure => simp [intOf]; omega
          have hownO := OwnTL.of hown3 hpk
          clear hown3
          rcases hownO.form hpk with ⟨h0, rfl⟩ | ⟨g, cap', rfl, hBg, hgw, hle, hrow⟩
          · omega
          have hglt := hglt' g rfl
          have hcp : ¬ cap' = p := by omega
          have hwk : IntKind.i64.wrap ((p : Int) + (k : Int) - (k : Int)) = (p : Int) := by rw [IntWalk.i64_in _ (by omega)]; omega
          have hwp : IntKind.i64.wrap (p : Int) = (p : Int) := IntWalk.i64_in _ (by omega)
          have hi0 : (0 : Int) ≤ (p : Int) := by omega
          have hi1 : (p : Int) ≤ (p : Int) + (k : Int) := by omega
          have hpc : p ≤ cap' := by omega
          have hgq : g < wo.heap.size + 1 := Nat.lt_succ_of_lt hglt
          have hrow' := Lib.hid hrow
          clear hrow
          go_wp2_with fail
          go_loopw [41] (fun i wq => ∃ q : Nat, q ≤ k ∧ i = .int .i64 (q : Int) ∧ Lib.IsBuilderF 59 5 (wo.heap.size + 1) (wo.heap.size + 1) (Lib.byteCells (n.name.data.toList ++ 40 :: joinT (U.take q))) wq ∧ Below (wo.heap.size + 1) w3 wq) (fun i _ => k - (intOf i).toNat)
          case atStart => exact ⟨0, by omega, rfl, hI3, Below.refl _ _⟩
          case round =>
            obtain ⟨q, hq, rfl, hIq, hbq⟩ := hrel
            have hzq : wo.heap.size + 1 < wr.heap.size := isB_lt hIq
            by_cases hqk : q < k
            · obtain ⟨x, hx⟩ : ∃ x, U[q]? = some x := ⟨_, List.getElem?_eq_getElem (by omega)⟩
              have hqki : (q : Int) < (k : Int) := by omega
              have hqk0 : (0 : Int) ≤ (q : Int) := by omega
              have hwq : IntKind.i64.wrap ((q : Int) + 1) = (q : Int) + 1 := IntWalk.i64_in _ (by omega)
              have hq0 : wr.cell? ⟨g, p * 2 + q * 2, none⟩ = some (.string ⟨x.text.toArray⟩) := by rw [hbq.cell (p := ⟨g, _, none⟩) hgq, hrow'.out _ (by omega)]; exact tlRow_at S U p q hp x hx 0 _ rfl
              have hq1 : wr.cell? ⟨g, p * 2 + q * 2 + 1, none⟩ = some (.int .i64 x.binds) := by rw [hbq.cell (p := ⟨g, _, none⟩) hgq, hrow'.out _ (by omega)]; exact tlRow_at S U p q hp x hx 1 _ rfl
              have hxl : x.text.length ≤ 3000000000 := by have := totT_mem (List.mem_of_getElem? hx); omega
              have hjq : (joinT (U.take q)).length ≤ 3000000100 := by
                have h9 := join_len (U.take q)
                have h8 : totT (U.take q) ≤ totT U := by
                  have h7 := totT_app (U.take q) (U.drop q)
                  rw [List.take_append_drop] at h7; omega
                have h6 : (U.take q).length ≤ U.length := by rw [List.length_take]; omega
                omega
              have hIx := isB_later hIq ((Below.refl wr.heap.size wr).alloc (Nat.le_refl _) (.cells #[.string ⟨x.text.toArray⟩, .int .i64 x.binds] 50))
              have hzx : wo.heap.size + 1 ≤ (wr.alloc (.cells #[.string ⟨x.text.toArray⟩, .int .i64 x.binds] 50)).heap.size := by simp; omega
              have hvx := heap_alloc_new wr (.cells #[.string ⟨x.text.toArray⟩, .int .i64 x.binds] 50)
              by_cases hq0' : 0 < q
              · have hq0i : (0 : Int) < (q : Int) := by omega
                go_wp2_with fail
                go_at_call 17
                refine (lwriteK (wo.heap.size + 1) (n.name.data.toList ++ 40 :: joinT (U.take q)) 44 (by simp only [List.length_append, List.length_cons]; omega) _ hzx hIx wr.heap.size _ hvx (by omega) (by intro c fz e; injection e with e1 e2; revert e2; decide)).mono ?_
                rintro e w7 ⟨rfl, hI7, hb7, hv7⟩
                have hbq7 : Below (wo.heap.size + 1) w3 w7 := (hbq.alloc (by omega) (.cells #[.string ⟨x.text.toArray⟩, .int .i64 x.binds] 50)).trans hb7
                have hz7 : wo.heap.size + 1 < w7.heap.size := isB_lt hI7
                have hx7 : w7.cell? ⟨wr.heap.size, 0, none⟩ = some (.string ⟨x.text.toArray⟩) := blk_cell hv7 0
                clear hIx hb7 hv7 hvx
                go_wp2_with fail
                go_at_call 16
                refine (lwrites (wo.heap.size + 1) (n.name.data.toList ++ 40 :: joinT (U.take q) ++ [44]) ⟨x.text.toArray⟩ (by show _ + x.text.toArray.size ≤ _; simp only [List.size_toArray, List.length_append, List.length_cons, List.length_nil]; omega) _ (by first | omega | (simp; omega)) (hI7)).mono ?_
                rintro e w8 ⟨rfl, hI8, hb8⟩
                have hb9 : Below (wo.heap.size + 1) w3 w8 := (hbq7).trans hb8
                have hI9 : Lib.IsBuilderF 59 5 (wo.heap.size + 1) (wo.heap.size + 1) (Lib.byteCells (n.name.data.toList ++ 40 :: joinT (U.take (q + 1)))) w8 := by
                  rw [List.take_add_one, hx]
                  have h9 := hI8
                  rw [Option.toList_some, join_snoc _ _ (by intro e; have h7 : (U.take q).length = 0 := congrArg List.length e; rw [List.length_take] at h7; omega)]
                  simpa using h9
                clear hb8 hI8 hx
                go_wp2
                go_roundw
                case rel => exact ⟨q + 1, by omega, by go_num, hI9, hb9⟩
                case measure => simp [intOf]; omega
              · have hq0i : ¬ (0 : Int) < (q : Int) := by omega
                have hqz := Lib.hid (show q = 0 by omega)
                clear hvx
                go_wp2_with fail
                go_at_call 16
                refine (lwrites (wo.heap.size + 1) (n.name.data.toList ++ 40 :: joinT (U.take q)) ⟨x.text.toArray⟩ (by show _ + x.text.toArray.size ≤ _; simp only [List.size_toArray, List.length_append, List.length_cons]; omega) _ (by first | omega | (simp; omega)) (hIx)).mono ?_
                rintro e w8 ⟨rfl, hI8, hb8⟩
                have hb9 : Below (wo.heap.size + 1) w3 w8 := (hbq.alloc (by omega) (.cells #[.string ⟨x.text.toArray⟩, .int .i64 x.binds] 50)).trans hb8
                have hI9 : Lib.IsBuilderF 59 5 (wo.heap.size + 1) (wo.heap.size + 1) (Lib.byteCells (n.name.data.toList ++ 40 :: joinT (U.take (q + 1)))) w8 := by
                  rw [List.take_add_one, hx]
                  have h9 := hI8
                  rw [hqz.out] at h9 ⊢
                  simpa [joinT] using h9
                clear hb8 hI8 hx
                go_wp2
                go_roundw
                case rel => exact ⟨q + 1, by omega, by go_num, hI9, hb9⟩
                case measure => simp [intOf]; omega
            · obtain rfl : q = k := by omega
              have hqq : ¬ ((q : Int) < (q : Int)) := by omega
              have htt : U.take q = U := List.take_of_length_le (by omega)
              rw [htt] at hIq
              go_wp2_with fail
              go_at_call 17
              refine (lwrite (wo.heap.size + 1) (n.name.data.toList ++ 40 :: joinT U) 41 (by simp only [List.length_append, List.length_cons]; first | omega | (simp [joinT]; omega)) _ (by omega) hIq).mono ?_
              rintro e w4 ⟨rfl, hI4, hb4⟩
              have hbq4 : Below (wo.heap.size + 1) w3 w4 := hbq.trans hb4
              have belW : Below w.heap.size w w4 := hbr3.trans (hbq4.mono (by omega))
              have hz4 : wo.heap.size + 1 < w4.heap.size := isB_lt hI4
              have hargW : w4.cell? ⟨wo.heap.size, 14, none⟩ = some (.int .i64 (q : Int)) := (hbq4.cell (p := ⟨wo.heap.size, 14, none⟩) (by dsimp only; omega)).trans hx14
              have hIW : Lib.IsBuilderF 59 5 (wo.heap.size + 1) (wo.heap.size + 1) (Lib.byteCells (d)) w4 := by rw [← hdH.out]; have h9 := hI4; rw [List.append_assoc] at h9; exact h9
              have hown4 := ownsRow_keep (OwnTL.as hownO hpk) hbq4 (fun q hq => Nat.lt_succ_of_lt (hglt' q hq))
              have hcut := ownsRow_cut (ys := tlRow S) (zs := tlRow U) (m := p) hown4 (tlRow_app S _) (by rw [tlRow_len, hp]) (by omega) (fun e => by cases e)
              have hcutlt : ∀ q, (.slice (some ⟨g, 0, none⟩) p cap' : Value).ownBlock = some q → q < wo.heap.size + 1 := fun q hq => by have h8 : g = q := Option.some.inj hq; omega
              clear hI4 hb4 hbq4 hown4 hIq hbq
              go_wp2_with fail
              refine wp_region_noPanic ?_
              refine wp_region_held_drew (S := fun w' => w'.cell? ⟨wo.heap.size, 14, none⟩ = some (.int .i64 (q : Int))) (by kernel_rfl) hargW (fun hHeld => ?_)
              refine wpAnyH_take (i := 0) (oi := ⟨_, _, _, _, _, _⟩) (v := ?v17) rfl (by kernel_rfl) (by kernel_rfl) (by kernel_rfl) (fun _ _ _ h => h) (Or.inl ⟨by rfl, ?hy17⟩) hHeld ?rest17
              case hy17 => (intro w2 hSw; (try dsimp only at hSw); go_split_ands; go_simp; first | done | with_reducible rfl)
              try simp only [Act.put, List.setIfInBounds_toArray, List.set_cons_zero, List.set_cons_succ]
              refine wpAnyH_take (i := 1) (oi := ⟨_, _, _, _, _, _⟩) (v := ?v18) rfl (by kernel_rfl) (by kernel_rfl) (by kernel_rfl) (fun _ _ _ h => h) (Or.inl ⟨by rfl, ?hy18⟩) hHeld ?rest18
              case hy18 => (intro w2 hSw; (try dsimp only at hSw); go_split_ands; go_simp; first | done | with_reducible rfl)
              try simp only [Act.put, List.setIfInBounds_toArray, List.set_cons_zero, List.set_cons_succ]
              refine wpAnyH_take (i := 2) (oi := ⟨_, _, _, _, _, _⟩) (v := ?v19) rfl (by kernel_rfl) (by kernel_rfl) (by kernel_rfl) (fun _ _ _ h => h) (Or.inl ⟨by rfl, ?hy19⟩) hHeld ?rest19
              case hy19 => (intro w2 hSw; (try dsimp only at hSw); go_split_ands; go_simp; first | done | with_reducible rfl)
              try simp only [Act.put, List.setIfInBounds_toArray, List.set_cons_zero, List.set_cons_succ]
              refine wpAnyH_take (i := 3) (oi := ⟨_, _, _, _, _, _⟩) (v := ?v20) rfl (by kernel_rfl) (by kernel_rfl) (by kernel_rfl) (fun _ _ _ h => h) (Or.inl ⟨by rfl, ?hy20⟩) hHeld ?rest20
              case hy20 => (intro w2 hSw; (try dsimp only at hSw); go_split_ands; go_simp; first | done | with_reducible rfl)
              try simp only [Act.put, List.setIfInBounds_toArray, List.set_cons_zero, List.set_cons_succ]
              refine wpAnyH_take (i := 4) (oi := ⟨_, _, _, _, _, _⟩) (v := ?v21) rfl (by kernel_rfl) (by kernel_rfl) (by kernel_rfl) (fun _ _ _ h => h) (Or.inl ⟨by rfl, ?hy21⟩) hHeld ?rest21
              case hy21 => (intro w2 hSw; (try dsimp only at hSw); go_split_ands; go_simp; first | done | with_reducible rfl)
              try simp only [Act.put, List.setIfInBounds_toArray, List.set_cons_zero, List.set_cons_succ]
              refine wpAnyH_take (i := 5) (oi := ⟨_, _, _, _, _, _⟩) (v := ?v22) rfl (by kernel_rfl) (by kernel_rfl) (by kernel_rfl) (fun _ _ _ h => h) (Or.inl ⟨by rfl, ?hy22⟩) hHeld ?rest22
              case hy22 => (intro w2 hSw; (try dsimp only at hSw); go_split_ands; go_simp; first | done | with_reducible rfl)
              try simp only [Act.put, List.setIfInBounds_toArray, List.set_cons_zero, List.set_cons_succ]
              refine wpAnyH_take (i := 6) (oi := ⟨_, _, _, _, _, _⟩) (v := ?v23) rfl (by kernel_rfl) (by kernel_rfl) (by kernel_rfl) (fun _ _ _ h => h) (Or.inl ⟨by rfl, ?hy23⟩) hHeld ?rest23
              case hy23 => (intro w2 hSw; (try dsimp only at hSw); go_split_ands; go_simp; first | done | with_reducible rfl)
              try simp only [Act.put, List.setIfInBounds_toArray, List.set_cons_zero, List.set_cons_succ]
              refine wpAnyH_ready (rs := [7]) (by kernel_rfl) (by simp) ?_
              refine AllReadyH.cons (o := ⟨_, _, _, _, _, _⟩) rfl (fun K hK => ?_) AllReadyH.nil
              go_split_ands
              go_simp
              refine (bstring_any (wo.heap.size + 1) d _ rfl _ (by simp; omega) (isB_later hIW ((Below.refl _ _).drew))).mono ?_
              rintro e w6 ⟨rfl, _, hb0⟩
              have hb : Below (wo.heap.size + 1) w4 w6 := ((Below.refl _ _).drew).trans hb0
              have own_6 := ownsRow_keep hcut hb hcutlt
              have bel_6 : Below w.heap.size w w6 := belW.trans (hb.mono (by omega))
              have siz_6 : wo.heap.size + 1 < w6.heap.size := by have := hb.size; omega
              have arg_6 := (hb.cell (p := ⟨wo.heap.size, 14, none⟩) (by dsimp only; omega)).trans hargW
              refine hK.out _ _ arg_6 (fun hHeld => ?_)
              clear hK K hb hb0
              try simp only [Act.put, List.setIfInBounds_toArray, List.set_cons_zero, List.set_cons_succ]
              refine wpAnyH_take (i := 8) (oi := ⟨_, _, _, _, _, _⟩) (v := ?v24) rfl (by kernel_rfl) (by kernel_rfl) (by kernel_rfl) (fun _ _ _ h => h) (Or.inl ⟨by rfl, ?hy24⟩) hHeld ?rest24
              case hy24 => (intro w2 hSw; (try dsimp only at hSw); go_split_ands; go_simp; first | done | with_reducible rfl)
              try simp only [Act.put, List.setIfInBounds_toArray, List.set_cons_zero, List.set_cons_succ]
              refine wpAnyH_ready (rs := [9]) (by kernel_rfl) (by simp) ?_
              refine AllReadyH.cons (o := ⟨_, _, _, _, _, _⟩) rfl (fun K hK => ?_) AllReadyH.nil
              go_split_ands
              go_simp
              have own_7 := World.ownsRow.alloc own_6 (.cells #[.string ⟨d.toArray⟩, .int .i64 7] 50)
              have hvg := heap_alloc_new w6 (.cells #[.string ⟨d.toArray⟩, .int .i64 7] 50)
              refine hK.out _ _ (al_cell (by dsimp only; omega) arg_6) (fun hHeld => ?_)
              clear hK K
              try simp only [Act.put, List.setIfInBounds_toArray, List.set_cons_zero, List.set_cons_succ]
              refine wpAnyH_ready (rs := [10]) (by kernel_rfl) (by simp) ?_
              refine AllReadyH.cons (o := ⟨_, _, _, _, _, _⟩) rfl (fun K hK => ?_) AllReadyH.nil
              refine step_append_lies _ (by rfl) _ _ _ (by rfl) w.heap.size 50 i0 _ 2 24 Tryz.underlying37 hi hz0 hz1 hz2 rfl (by omega) (.slice (some ⟨g, 0, none⟩) p cap') p (tlRow S) (by rfl) own_7 ⟨w6.heap.size, 0, none⟩ 1 1 [.string ⟨d.toArray⟩, .int .i64 7] (by rfl) (by rfl) (World.news_of_block hvg) (by simp [Value.oneCell']) (by omega) (by unfold maxLen; omega) (by omega) (by have := bel_6.size; simp; omega) (w6.heap.size + 1) (by simp) ?_
              intro g5 cap5 w5 hown5 hgrow5 hat5 hlt5
              have hbr5 : Below w.heap.size w w5 := (bel_6.alloc (by have := bel_6.size; omega) _).grown hgrow5 (by have := bel_6.size; simp; omega) (fun q hq => (World.ownsRow.lt own_7 q hq).1)
              have arg_5 := (hgrow5.cell_far ⟨wo.heap.size, 14, none⟩ (by show _ < (World.alloc _ _).heap.size; simp; omega) (by intro e; have e : wo.heap.size = g := Option.some.inj e; omega)).trans (al_cell (by dsimp only; omega) arg_6)
              refine hK.out _ _ arg_5 (fun hHeld => ?_)
              clear hK K hgrow5
              try simp only [Act.put, List.setIfInBounds_toArray, List.set_cons_zero, List.set_cons_succ]
              refine wpAnyH_take (i := 11) (oi := ⟨_, _, _, _, _, _⟩) (v := ?v25) rfl (by kernel_rfl) (by kernel_rfl) (by kernel_rfl) (fun _ _ _ h => h) (Or.inl ⟨by rfl, ?hy25⟩) hHeld ?rest25
              case hy25 => (intro w2 hSw; (try dsimp only at hSw); go_split_ands; go_simp; first | done | with_reducible rfl)
              try simp only [Act.put, List.setIfInBounds_toArray, List.set_cons_zero, List.set_cons_succ]
              refine wpAnyH_done (by kernel_rfl) ?_ _
              refine NoPanic.normal ?_
              go_wp2
              go_roundw
              case rel => exact ⟨j + 1, stepT _ n, by omega, by go_num, Lib.hid hRd.put, hRd.len, hRd.tot, by rw [hstH.out]; unfold OwnTL; rw [List.length_append, hp, ← tl_new S _ _ 7 rfl]; exact hown5, hbr5⟩
              case measure => simp [intOf]; omega
    · obtain rfl : j = ns.length := by omega
      clear hR' hok' hsz'
      have hTx : T = [x0] := by rw [← hput.out, List.take_of_length_le (Nat.le_refl _)]; exact hx0'.out
      subst hTx
      have hjj : ¬ ((ns.length : Int) < (ns.length : Int)) := by omega
      have hxl : x0.text.length ≤ 3000000000 := by rw [totT_one] at htot; omega
      rcases hown.form (n := 1) rfl with ⟨h0, _⟩ | ⟨g, cap', rfl, hBg, hgw, hle, hrow⟩
      · omega
      have hq0 : wr.cell? ⟨g, 0, none⟩ = some (.string ⟨x0.text.toArray⟩) := (hrow 0 (by omega)).trans rfl
      clear hrow
      go_wp2
      go_ret2
      exact ⟨by rw [hfH.out, ← one_eq]; rfl, hbr⟩
end Go.Proofs.YtfbkoieodflcpaaGreatDoor
