/-
  orielref07: text of a call.
-/
import Derived.Test.YtfbkoieodflcpaaGreatDoorMg3
import Derived.Test.YtfbkoieodflcpaaGreatDoorRows
import Derived.Test.YtfbkoieodflcpaaGreatDoorBase
import Derived.Test.YtfbkoieodflcpaaGreatDoorProg
import Derived.Test.YtfbkoieodflcpaaGreatDoorShelf
import Derived.Test.YtfbkoieodflcpaaGreatDoorAddrC
import Derived.Test.YtfbkoieodflcpaaGreatDoorMg5
import Derived.Test.YtfbkoieodflcpaaGreatDoorDecA
import Derived.Test.YtfbkoieodflcpaaGreatDoorValA
import Derived.Test.YtfbkoieodflcpaaGreatDoorValB
import Derived.Test.YtfbkoieodflcpaaGreatDoorMg9
import Derived.Test.YtfbkoieodflcpaaGreatDoorMapK
import Derived.Test.YtfbkoieodflcpaaGreatDoorRefP
import Derived.Test.YtfbkoieodflcpaaGreatDoorRefQ
import Derived.Test.YtfbkoieodflcpaaGreatDoorRefName
import Derived.Test.YtfbkoieodflcpaaGreatDoorShelfC
import Derived.Test.YtfbkoieodflcpaaGreatDoorMg2
import Derived.Test.YtfbkoieodflcpaaGreatDoorNameX
import Derived.Test.YtfbkoieodflcpaaGreatDoorNameY
import Derived.Test.YtfbkoieodflcpaaGreatDoorDPrint
import Derived.Test.YtfbkoieodflcpaaGreatDoorValK
import Derived.Test.YtfbkoieodflcpaaGreatDoorRPr
import Derived.Test.YtfbkoieodflcpaaGreatDoorValL
import Derived.Test.YtfbkoieodflcpaaGreatDoorPrP
import Derived.Test.YtfbkoieodflcpaaGreatDoorPrA
import Derived.Test.YtfbkoieodflcpaaGreatDoorT07
import Derived.Test.YtfbkoieodflcpaaGreatDoorRefN
import Derived.Test.YtfbkoieodflcpaaGreatDoorRefM
import Derived.Test.YtfbkoieodflcpaaGreatDoorRefY
import Derived.Test.YtfbkoieodflcpaaGreatDoorRefZ
import Derived.Test.YtfbkoieodflcpaaGreatDoorRLev
import Derived.Test.YtfbkoieodflcpaaGreatDoorT07B
import Derived.WalkSpells
import Derived.WalkLawsBesides
import Derived.StillTactics
import Derived.Laws.Pointers
import Derived.Deep.RegionHeld3
import Derived.Deep.QuietTactic
import Derived.BigQuiet
import Derived.RowKit3
import Derived.Lib.Hide
import Derived.Lib.OthersKept
import Derived.OwnWalk
import Derived.Lib.IndexLaws
import Derived.Lib.ItoaMem
import Derived.Lib.TrimByte
import Derived.Lib.SlTrimSet
import Derived.Lib.ParseIntB
import Derived.WalkKit
import Derived.ProofKit
import Derived.OpenShut
import Derived.Carry
import Derived.ChangeSame
import Derived.Deep.Draws
import Derived.Shelf.Strings.Builder1
import Derived.Shelf.Strings.Builder2
import Derived.Shelf.Strings.Trim
import Derived.Shelf.Small.Utf8
import Derived.Shelf.Small.Strs
import Derived.Shelf.Small.Wraps
import Derived.Shelf.Strings.BuilderF
import Derived.Shelf.Strings.BuilderK
import Derived.Shelf.Strconv.Itoa0
import Derived.Shelf.Strconv.Itoa1
import Derived.Shelf.LaysM
import Derived.Shelf.Strconv.Itoa2
import Derived.Shelf.Strconv.Itoa3
import Derived.Shelf.Strings.Search1
import Derived.Shelf.Strings.Search2
import Derived.Shelf.Strings.Search3
import Derived.Shelf.Strings.Cut
import Derived.Shelf.Strings.Count
import Derived.Shelf.Strings.Shaped
import Derived.Shelf.Strings.Prefix
import Derived.Shelf.Strings.Split
import Derived.Shelf.Strings.Replace
import Derived.Shelf.Strings.Runes
import Derived.Shelf.Strings.AsciiSet
import Derived.Shelf.Unicode.DecodeSlow
import Derived.Lib.ItoaNum
import Derived.Maps.OwnSet
import Derived.Maps.AppendAt
import Derived.Ground.MpProg
import Derived.Shelf.Pu.ParseUintPublic10
import Derived.Lib.Bytealg
import Derived.Lib.Replace
namespace Go.Proofs.YtfbkoieodflcpaaGreatDoor
open Go.RowKit

theorem join_cons (x : TL) (l : List TL) (h : l ≠ []) : joinT (x :: l) = x.text ++ 44 :: joinT l := by
  cases l with
  | nil => exact absurd rfl h
  | cons y l => simp [joinT]
theorem tot_drop (U : List TL) (k : Nat) : totT (U.drop k) ≤ totT U := by
  have h := totT_app (U.take k) (U.drop k)
  rw [List.take_append_drop] at h; omega
set_option maxRecDepth 100000 in
set_option maxHeartbeats 4000000 in
theorem text_call (ns : List NL) (m : Nat) (hm : m ≤ 1024) (n : NL) (hn : ns[m]? = some n) (hk : n.kind = 5) (U : List TL) (hU : n.args = (U.length : Int)) (hU16 : U.length ≤ 16) (hnl : n.name.size ≤ 16) (hUt : totT U ≤ 3000000000) (us : Nat → Nat) (hu0 : us 0 = 1) (hum : ∀ q, q ≤ U.length → us q ≤ m + 1) (hstep : ∀ q (hq : q < U.length), ∃ kq, us (q + 1) = us q + kq ∧ us q ≤ m ∧ TextAt ns (m + 1 - us q) (U[U.length - 1 - q]'(by omega)) kq) : TextAt ns (m + 1) ⟨n.name.data.toList ++ 40 :: (joinT U ++ [41]), 7⟩ (us U.length) := by
  intro w A cap ht hcap hR
  obtain ⟨ab, ao, rfl, hab, hcell⟩ := hR m n.cs (by rw [List.getElem?_map, hn]; rfl)
  have hc0 : w.cell? ⟨ab, ao + m * 15, none⟩ = some (.int .i64 n.kind) := hcell 0 _ rfl
  have hc1 : w.cell? ⟨ab, ao + m * 15 + 1, none⟩ = some (.int .i64 n.v.t) := hcell 1 _ rfl
  have hc2 : w.cell? ⟨ab, ao + m * 15 + 2, none⟩ = some (.int .i64 n.v.n) := hcell 2 _ rfl
  have hc3 : w.cell? ⟨ab, ao + m * 15 + 3, none⟩ = some (.string n.v.s) := hcell 3 _ rfl
  have hc4 : w.cell? ⟨ab, ao + m * 15 + 4, none⟩ = some (.bool n.v.b) := hcell 4 _ rfl
  have hc5 : w.cell? ⟨ab, ao + m * 15 + 5, none⟩ = some (.int .i64 n.v.c) := hcell 5 _ rfl
  have hc6 : w.cell? ⟨ab, ao + m * 15 + 6, none⟩ = some (.int .i64 n.r) := hcell 6 _ rfl
  have hc7 : w.cell? ⟨ab, ao + m * 15 + 7, none⟩ = some (.int .i64 n.c) := hcell 7 _ rfl
  have hc8 : w.cell? ⟨ab, ao + m * 15 + 8, none⟩ = some (.int .i64 n.t) := hcell 8 _ rfl
  have hc9 : w.cell? ⟨ab, ao + m * 15 + 9, none⟩ = some (.int .i64 n.l) := hcell 9 _ rfl
  have hc10 : w.cell? ⟨ab, ao + m * 15 + 10, none⟩ = some (.int .i64 n.b) := hcell 10 _ rfl
  have hc11 : w.cell? ⟨ab, ao + m * 15 + 11, none⟩ = some (.int .i64 n.q) := hcell 11 _ rfl
  have hc12 : w.cell? ⟨ab, ao + m * 15 + 12, none⟩ = some (.int .i64 n.op) := hcell 12 _ rfl
  have hc13 : w.cell? ⟨ab, ao + m * 15 + 13, none⟩ = some (.string n.name) := hcell 13 _ rfl
  have hc14 : w.cell? ⟨ab, ao + m * 15 + 14, none⟩ = some (.int .i64 n.args) := hcell 14 _ rfl
  have hwk : IntKind.i64.wrap ((m : Int) + 1 - 1) = (m : Int) := by rw [IntWalk.i64_in _ (by omega)]; omega
  have hwp : IntKind.i64.wrap (m : Int) = (m : Int) := IntWalk.i64_in _ (by omega)
  have hi0 : (0 : Int) ≤ (m : Int) := by omega
  have hi1 : (m : Int) < (m : Int) + 1 := by omega
  have hne : ab ≠ w.heap.size := by omega
  have hRH := Lib.hid hR
  have htH := Lib.hid ht
  have hb0 : Below w.heap.size w (w.alloc (.cells #[.int .i64 n.kind, .int .i64 n.v.t, .int .i64 n.v.n, .string n.v.s, .bool n.v.b, .int .i64 n.v.c, .int .i64 n.r, .int .i64 n.c, .int .i64 n.t, .int .i64 n.l, .int .i64 n.b, .int .i64 n.q, .int .i64 n.op, .string n.name, .int .i64 n.args] 47)) := (Below.refl _ _).alloc (Nat.le_refl _) _
  clear hcell hn hR ht
  have fk1 : (n.kind == 1) = false := by rw [hk]; rfl
  have fk2 : (n.kind == 2) = false := by rw [hk]; rfl
  have fk3 : (n.kind == 3) = false := by rw [hk]; rfl
  have fk5 : (n.kind == 5) = true := by rw [hk]; rfl
  obtain ⟨k, hkU⟩ : ∃ k, U.length = k := ⟨_, rfl⟩
  have hstepH := Lib.hid hstep
  have humH := Lib.hid hum
  have hu0H := Lib.hid hu0
  rw [hU, hkU] at hc14
  have hUH := Lib.hid hkU
  have hk16 : k ≤ 16 := by omega
  obtain ⟨w0, hw0⟩ : ∃ w0, w.alloc (.cells #[.int .i64 n.kind, .int .i64 n.v.t, .int .i64 n.v.n, .string n.v.s, .bool n.v.b, .int .i64 n.v.c, .int .i64 n.r, .int .i64 n.c, .int .i64 n.t, .int .i64 n.l, .int .i64 n.b, .int .i64 n.q, .int .i64 n.op, .string n.name, .int .i64 (k : Int)] 47) = w0 := ⟨_, rfl⟩
  have hbw : Below w.heap.size w w0 := by rw [← hw0]; exact (Below.refl _ _).alloc (Nat.le_refl _) _
  have hx13 : w0.cell? ⟨w.heap.size, 13, none⟩ = some (.string n.name) := by rw [← hw0]; simp [go_sem]
  have hx14 : w0.cell? ⟨w.heap.size, 14, none⟩ = some (.int .i64 (k : Int)) := by rw [← hw0]; simp [go_sem]
  have hz0 : w0.heap.size = w.heap.size + 1 := by rw [← hw0]; simp
  have hbs : Below (w.heap.size + 1) w0 (w.alloc (.cells #[.int .i64 n.kind, .int .i64 n.v.t, .int .i64 n.v.n, .string n.v.s, .bool n.v.b, .int .i64 n.v.c, .int .i64 n.r, .int .i64 n.c, .int .i64 n.t, .int .i64 n.l, .int .i64 n.b, .int .i64 n.q, .int .i64 n.op, .string n.name, .int .i64 (k : Int)] 47)) := by rw [← hw0]; exact Below.refl _ _
  clear hk hU hum hstep hu0 hb0 hw0 hkU
  have hgoal : (⟨(n.name.data.toList ++ 40 :: (joinT U ++ [41])).toArray⟩ : ByteArray) = n.name ++ ⟨#[40]⟩ ++ ⟨(joinT U).toArray⟩ ++ ⟨#[41]⟩ := by
    apply ByteArray.ext
    simp
  have hgH := Lib.hid hgoal
  clear hgoal
  go_enter Tryz.func20, Tryz.ntmps20
  go_wp2
  go_loopw [6, 7, 8] (fun a b i wr => ∃ (q : Nat) (t : ByteArray), q ≤ k ∧ i = .int .i64 (q : Int) ∧ b = .int .i64 ((us q : Nat) : Int) ∧ a = .string t ∧ Hid (t = ⟨(joinT (U.drop (k - q))).toArray⟩) ∧ t.size ≤ 3000000100 ∧ Below (w.heap.size + 1) w0 wr) (fun _ _ i _ => k - (intOf i).toNat)
  case atStart => exact ⟨0, ⟨#[]⟩, by omega, rfl, by rw [hu0H.out]; rfl, rfl, Lib.hid (by rw [Nat.sub_zero, List.drop_of_length_le (by rw [hUH.out]; omega)]; rfl), by decide, hbs⟩
  case round =>
    clear hbs
    obtain ⟨q, t, hq, rfl, rfl, rfl, ht, hts, hbr⟩ := hrel
    have hbe : Below w.heap.size w wr := hbw.trans (hbr.mono (by omega))
    have hy13 : wr.cell? ⟨w.heap.size, 13, none⟩ = some (.string n.name) := (hbr.cell (p := ⟨w.heap.size, 13, none⟩) (by show w.heap.size < w.heap.size + 1; omega)).trans hx13
    have hy14 : wr.cell? ⟨w.heap.size, 14, none⟩ = some (.int .i64 (k : Int)) := (hbr.cell (p := ⟨w.heap.size, 14, none⟩) (by show w.heap.size < w.heap.size + 1; omega)).trans hx14
    have hzr : w.heap.size + 1 ≤ wr.heap.size := by have := hbr.size; omega
    have huq := humH.out q (by rw [hUH.out]; exact hq)
    obtain ⟨uq, huqe⟩ : ∃ uq, us q = uq := ⟨_, rfl⟩
    rw [huqe] at huq
    by_cases hqk : q < k
    · have hqU : q < U.length := by rw [hUH.out]; exact hqk
      obtain ⟨kq, h1, h2, h3⟩ := hstepH.out q hqU
      obtain ⟨x, hx⟩ : ∃ x, U[U.length - 1 - q]'(by omega) = x := ⟨_, rfl⟩
      rw [hx, huqe] at h3
      rw [huqe] at h1 h2
      have hu1 := humH.out (q + 1) (by omega)
      rw [h1] at hu1
      obtain ⟨M, hM⟩ : ∃ M, m + 1 - uq = M := ⟨_, rfl⟩
      rw [hM] at h3
      have CX : ∀ w0 : World, Below w.heap.size w w0 → Calls Tryz.prog 20 #[.slice (some ⟨ab, ao, none⟩) M cap] w0 fun e w' => e = .returned (.tuple #[.string ⟨x.text.toArray⟩, .int .i64 x.binds, .int .i64 ((kq : Nat) : Int)]) ∧ Below w0.heap.size w0 w' := fun w0 hb => h3 w0 _ cap (Tab.below htH.out hb) (by omega) ((hRH.out.below hb).mono hb.size)
      have CXH := Lib.hid CX
      have hxU : x ∈ U := by rw [← hx]; exact List.getElem_mem _
      have hxl : x.text.length ≤ 3000000000 := by have := totT_mem hxU; omega
      have hdr : U.drop (k - (q + 1)) = x :: U.drop (k - q) := by
        have hkU := hUH.out
        rw [List.drop_eq_getElem_cons (by omega : k - (q + 1) < U.length)]
        congr 1
        · rw [← hx]; congr 1; omega
        · congr 1; omega
      have htot := tot_drop U (k - (q + 1))
      have hjl := join_len (U.drop (k - (q + 1)))
      have hdl : (U.drop (k - (q + 1))).length ≤ 16 := by rw [List.length_drop]; omega
      have hdrH := Lib.hid hdr
      have h1H := Lib.hid h1
      have huH := Lib.hid huqe
      have hwM : IntKind.i64.wrap ((m : Int) + 1 - (uq : Int)) = (M : Int) := by rw [IntWalk.i64_in _ (by omega)]; omega
      have hwu : IntKind.i64.wrap ((uq : Int) + (kq : Int)) = (uq : Int) + (kq : Int) := IntWalk.i64_in _ (by omega)
      have hwq : IntKind.i64.wrap ((q : Int) + 1) = (q : Int) + 1 := IntWalk.i64_in _ (by omega)
      have hM0 : (0 : Int) ≤ (M : Int) := by omega
      have hM1 : (M : Int) ≤ (m : Int) + 1 := by omega
      have hM2 : M ≤ m + 1 := by omega
      have hMc : M ≤ cap := by omega
      have hqk2 : (q : Int) < (k : Int) := by omega
      rw [huqe]
      clear CX hdr h1 h3 hx hxU huqe hM
      go_wp2_with fail
      go_at_call 20
      refine (CXH.out _ hbe).mono ?_
      rintro e w2 ⟨rfl, hb⟩
      have hbr2 : Below (w.heap.size + 1) w0 w2 := hbr.trans (hb.mono hzr)
      clear hb
      by_cases hq0 : 0 < q
      · have hq0i : (0 : Int) < (q : Int) := by omega
        have hcc1 : ¬ (9223372036854775807 < 1 + t.size) := by omega
        have hcc2 : ¬ (9223372036854775807 < x.text.length + (1 + t.size)) := by omega
        have hne0 : U.drop (k - q) ≠ [] := fun e => by have h9 := congrArg List.length e; rw [List.length_drop, hUH.out] at h9; simp at h9; omega
        have hnew := Lib.hid (show (⟨x.text.toArray⟩ : ByteArray) ++ ((⟨#[44]⟩ : ByteArray) ++ t) = ⟨(joinT (U.drop (k - (q + 1)))).toArray⟩ by
          rw [ht.out, hdrH.out, join_cons _ _ hne0]; apply ByteArray.ext; simp)
        have hsz : ((⟨x.text.toArray⟩ : ByteArray) ++ ((⟨#[44]⟩ : ByteArray) ++ t)).size ≤ 3000000100 := by
          rw [hnew.out]; show (joinT (U.drop (k - (q + 1)))).toArray.size ≤ _; simp; omega
        clear hne0
        go_wp2
        go_roundw
        case rel => exact ⟨q + 1, _, by omega, by go_num, by rw [h1H.out]; rfl, rfl, hnew, hsz, hbr2⟩
        case measure => simp [intOf]; omega
      · have hq0i : ¬ (0 : Int) < (q : Int) := by omega
        have hcc2 : ¬ (9223372036854775807 < x.text.length + t.size) := by omega
        have hqz : q = 0 := by omega
        have hnew := Lib.hid (show (⟨x.text.toArray⟩ : ByteArray) ++ t = ⟨(joinT (U.drop (k - (q + 1)))).toArray⟩ by
          rw [ht.out, hdrH.out, List.drop_of_length_le (by rw [hUH.out]; omega : U.length ≤ k - q)]; apply ByteArray.ext; simp [joinT])
        have hsz : ((⟨x.text.toArray⟩ : ByteArray) ++ t).size ≤ 3000000100 := by
          rw [hnew.out]; show (joinT (U.drop (k - (q + 1)))).toArray.size ≤ _; simp; omega
        clear hqz
        go_wp2
        go_roundw
        case rel => exact ⟨q + 1, _, by omega, by go_num, by rw [h1H.out]; rfl, rfl, hnew, hsz, hbr2⟩
        case measure => simp [intOf]; omega
    · obtain rfl : q = k := by omega
      have hqq : ¬ ((q : Int) < (q : Int)) := by omega
      have hcc1 : ¬ (9223372036854775807 < n.name.size + 1) := by omega
      have hcc2 : ¬ (9223372036854775807 < n.name.size + 1 + t.size) := by omega
      have hcc3 : ¬ (9223372036854775807 < n.name.size + 1 + t.size + 1) := by omega
      have htt := Lib.hid (show t = ⟨(joinT U).toArray⟩ by rw [ht.out, Nat.sub_self, List.drop_zero])
      have hUq := hUH.out
      have hfin := Lib.hid (show us U.length = uq by rw [hUq]; exact huqe)
      rw [huqe]
      clear huqe hUq
      go_wp2
      go_ret3
      exact ⟨by rw [hgH.out, hfin.out, htt.out]; rfl, hbe⟩
end Go.Proofs.YtfbkoieodflcpaaGreatDoor
