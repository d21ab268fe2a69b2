/-
  orielref07: text by kinds.
-/
import Derived.Test.YtfbkoieodflcpaaGreatDoorMg3
import Derived.Test.YtfbkoieodflcpaaGreatDoorRows
import Derived.Test.YtfbkoieodflcpaaGreatDoorBase
import Derived.Test.YtfbkoieodflcpaaGreatDoorProg
import Derived.Test.YtfbkoieodflcpaaGreatDoorShelf
import Derived.Test.YtfbkoieodflcpaaGreatDoorAddrC
import Derived.Test.YtfbkoieodflcpaaGreatDoorMg5
import Derived.Test.YtfbkoieodflcpaaGreatDoorDecA
import Derived.Test.YtfbkoieodflcpaaGreatDoorValA
import Derived.Test.YtfbkoieodflcpaaGreatDoorValB
import Derived.Test.YtfbkoieodflcpaaGreatDoorMg9
import Derived.Test.YtfbkoieodflcpaaGreatDoorMapK
import Derived.Test.YtfbkoieodflcpaaGreatDoorRefP
import Derived.Test.YtfbkoieodflcpaaGreatDoorRefQ
import Derived.Test.YtfbkoieodflcpaaGreatDoorRefName
import Derived.Test.YtfbkoieodflcpaaGreatDoorShelfC
import Derived.Test.YtfbkoieodflcpaaGreatDoorMg2
import Derived.Test.YtfbkoieodflcpaaGreatDoorNameX
import Derived.Test.YtfbkoieodflcpaaGreatDoorNameY
import Derived.Test.YtfbkoieodflcpaaGreatDoorDPrint
import Derived.Test.YtfbkoieodflcpaaGreatDoorValK
import Derived.Test.YtfbkoieodflcpaaGreatDoorRPr
import Derived.Test.YtfbkoieodflcpaaGreatDoorValL
import Derived.Test.YtfbkoieodflcpaaGreatDoorPrP
import Derived.Test.YtfbkoieodflcpaaGreatDoorPrA
import Derived.Test.YtfbkoieodflcpaaGreatDoorT07
import Derived.Test.YtfbkoieodflcpaaGreatDoorRefN
import Derived.Test.YtfbkoieodflcpaaGreatDoorRefM
import Derived.Test.YtfbkoieodflcpaaGreatDoorRefY
import Derived.Test.YtfbkoieodflcpaaGreatDoorRefZ
import Derived.Test.YtfbkoieodflcpaaGreatDoorRLev
import Derived.WalkSpells
import Derived.WalkLawsBesides
import Derived.StillTactics
import Derived.Laws.Pointers
import Derived.Deep.RegionHeld3
import Derived.Deep.QuietTactic
import Derived.BigQuiet
import Derived.RowKit3
import Derived.Lib.Hide
import Derived.Lib.OthersKept
import Derived.OwnWalk
import Derived.Lib.IndexLaws
import Derived.Lib.ItoaMem
import Derived.Lib.TrimByte
import Derived.Lib.SlTrimSet
import Derived.Lib.ParseIntB
import Derived.WalkKit
import Derived.ProofKit
import Derived.OpenShut
import Derived.Carry
import Derived.ChangeSame
import Derived.Deep.Draws
import Derived.Shelf.Strings.Builder1
import Derived.Shelf.Strings.Builder2
import Derived.Shelf.Strings.Trim
import Derived.Shelf.Small.Utf8
import Derived.Shelf.Small.Strs
import Derived.Shelf.Small.Wraps
import Derived.Shelf.Strings.BuilderF
import Derived.Shelf.Strings.BuilderK
import Derived.Shelf.Strconv.Itoa0
import Derived.Shelf.Strconv.Itoa1
import Derived.Shelf.LaysM
import Derived.Shelf.Strconv.Itoa2
import Derived.Shelf.Strconv.Itoa3
import Derived.Shelf.Strings.Search1
import Derived.Shelf.Strings.Search2
import Derived.Shelf.Strings.Search3
import Derived.Shelf.Strings.Cut
import Derived.Shelf.Strings.Count
import Derived.Shelf.Strings.Shaped
import Derived.Shelf.Strings.Prefix
import Derived.Shelf.Strings.Split
import Derived.Shelf.Strings.Replace
import Derived.Shelf.Strings.Runes
import Derived.Shelf.Strings.AsciiSet
import Derived.Shelf.Unicode.DecodeSlow
import Derived.Lib.ItoaNum
import Derived.Maps.OwnSet
import Derived.Maps.AppendAt
import Derived.Ground.MpProg
import Derived.Shelf.Pu.ParseUintPublic10
import Derived.Lib.Bytealg
import Derived.Lib.Replace
namespace Go.Proofs.YtfbkoieodflcpaaGreatDoor
open Go.RowKit

theorem show_any (v : VL) (h : v.may = true) (e : v.t = 3 ∨ v.t = 4) (w : World) : Calls Tryz.prog 41 #[.agg #[.int .i64 v.t, .int .i64 v.n, .string v.s, .bool v.b, .int .i64 v.c]] w fun e w' => e = .returned (.string ⟨(litT v).toArray⟩) ∧ Below w.heap.size w w' := by
  have hc := vmay_cases v h (by omega)
  obtain ⟨t, n, s, b, c⟩ := v
  change t = 3 ∨ t = 4 at e
  rcases hc with ⟨e1, _⟩ | ⟨e1, _⟩ | ⟨e1, e2, e3, e4⟩ | ⟨e1, e2, e3, e4, e5, e6⟩
  · change t = 1 at e1; omega
  · change t = 2 at e1; omega
  · change t = 3 at e1; change n = 0 at e2; change s = ⟨#[]⟩ at e3; change c = 0 at e4
    subst e1 e2 e3 e4
    cases b
    · exact rshow_f w
    · exact rshow_t w
  · change t = 4 at e1; change n = 0 at e2; change s = ⟨#[]⟩ at e3; change b = false at e4; change 1 ≤ c at e5; change c ≤ 8 at e6
    subst e1 e2 e3 e4
    have h9 := rshow_4 c ⟨e5, e6⟩ w
    have e9 : (⟨(litT ⟨4, 0, ⟨#[]⟩, false, c⟩).toArray⟩ : ByteArray) = codeName c := by
      show (⟨(codeName c).data.toList.toArray⟩ : ByteArray) = codeName c
      rw [Array.toArray_toList]
    rw [e9]
    exact h9
/-- what the document's text answers of the first m nodes -/
def TextAt (ns : List NL) (m : Nat) (x : TL) (used : Nat) : Prop := ∀ (w : World) (A : Option Addr) (cap : Nat), Tab w → m ≤ cap → RdB w w.heap.size A 15 (ns.map NL.cs) → Calls Tryz.prog 20 #[.slice A m cap] w fun e w' => e = .returned (.tuple #[.string ⟨x.text.toArray⟩, .int .i64 x.binds, .int .i64 (used : Int)]) ∧ Below w.heap.size w w'
set_option maxRecDepth 100000 in
set_option maxHeartbeats 4000000 in
theorem text_cell (ns : List NL) (m : Nat) (hm : m ≤ 1024) (n : NL) (hn : ns[m]? = some n) (hk : n.kind = 2) : TextAt ns (m + 1) ⟨nameZ n.r n.c, 7⟩ 1 := by
  intro w A cap ht hcap hR
  obtain ⟨ab, ao, rfl, hab, hcell⟩ := hR m n.cs (by rw [List.getElem?_map, hn]; rfl)
  have hc0 : w.cell? ⟨ab, ao + m * 15, none⟩ = some (.int .i64 n.kind) := hcell 0 _ rfl
  have hc1 : w.cell? ⟨ab, ao + m * 15 + 1, none⟩ = some (.int .i64 n.v.t) := hcell 1 _ rfl
  have hc2 : w.cell? ⟨ab, ao + m * 15 + 2, none⟩ = some (.int .i64 n.v.n) := hcell 2 _ rfl
  have hc3 : w.cell? ⟨ab, ao + m * 15 + 3, none⟩ = some (.string n.v.s) := hcell 3 _ rfl
  have hc4 : w.cell? ⟨ab, ao + m * 15 + 4, none⟩ = some (.bool n.v.b) := hcell 4 _ rfl
  have hc5 : w.cell? ⟨ab, ao + m * 15 + 5, none⟩ = some (.int .i64 n.v.c) := hcell 5 _ rfl
  have hc6 : w.cell? ⟨ab, ao + m * 15 + 6, none⟩ = some (.int .i64 n.r) := hcell 6 _ rfl
  have hc7 : w.cell? ⟨ab, ao + m * 15 + 7, none⟩ = some (.int .i64 n.c) := hcell 7 _ rfl
  have hc8 : w.cell? ⟨ab, ao + m * 15 + 8, none⟩ = some (.int .i64 n.t) := hcell 8 _ rfl
  have hc9 : w.cell? ⟨ab, ao + m * 15 + 9, none⟩ = some (.int .i64 n.l) := hcell 9 _ rfl
  have hc10 : w.cell? ⟨ab, ao + m * 15 + 10, none⟩ = some (.int .i64 n.b) := hcell 10 _ rfl
  have hc11 : w.cell? ⟨ab, ao + m * 15 + 11, none⟩ = some (.int .i64 n.q) := hcell 11 _ rfl
  have hc12 : w.cell? ⟨ab, ao + m * 15 + 12, none⟩ = some (.int .i64 n.op) := hcell 12 _ rfl
  have hc13 : w.cell? ⟨ab, ao + m * 15 + 13, none⟩ = some (.string n.name) := hcell 13 _ rfl
  have hc14 : w.cell? ⟨ab, ao + m * 15 + 14, none⟩ = some (.int .i64 n.args) := hcell 14 _ rfl
  have hwk : IntKind.i64.wrap ((m : Int) + 1 - 1) = (m : Int) := by rw [IntWalk.i64_in _ (by omega)]; omega
  have hwp : IntKind.i64.wrap (m : Int) = (m : Int) := IntWalk.i64_in _ (by omega)
  have hi0 : (0 : Int) ≤ (m : Int) := by omega
  have hi1 : (m : Int) < (m : Int) + 1 := by omega
  have hne : ab ≠ w.heap.size := by omega
  have hRH := Lib.hid hR
  have htH := Lib.hid ht
  have hb0 : Below w.heap.size w (w.alloc (.cells #[.int .i64 n.kind, .int .i64 n.v.t, .int .i64 n.v.n, .string n.v.s, .bool n.v.b, .int .i64 n.v.c, .int .i64 n.r, .int .i64 n.c, .int .i64 n.t, .int .i64 n.l, .int .i64 n.b, .int .i64 n.q, .int .i64 n.op, .string n.name, .int .i64 n.args] 47)) := (Below.refl _ _).alloc (Nat.le_refl _) _
  clear hcell hn hR ht
  have fk1 : (n.kind == 1) = false := by rw [hk]; rfl
  have fk2 : (n.kind == 2) = true := by rw [hk]; rfl
  have C : ∀ w0 : World, Calls Tryz.prog 42 #[.agg #[.int .i64 n.r, .int .i64 n.c]] w0 fun e w' => e = .returned (.string ⟨(nameZ n.r n.c).toArray⟩) ∧ Below w0.heap.size w0 w' := fun w0 => rname_any n.r n.c w0
  have CH := Lib.hid C
  clear C hk
  show Calls _ _ _ _ fun e w' => e = .returned (.tuple #[.string ⟨(nameZ n.r n.c).toArray⟩, .int .i64 7, .int .i64 1]) ∧ _
  generalize (⟨(nameZ n.r n.c).toArray⟩ : ByteArray) = r at *
  go_enter Tryz.func20, Tryz.ntmps20
  go_wp2_with fail
  go_at_call 42
  refine (CH.out _).mono ?_
  rintro e w1 ⟨rfl, hb⟩
  go_wp2
  refine bodyPost_ret (v := .tuple #[.string r, .int .i64 7, .int .i64 1]) ?_ rfl ⟨rfl, hb0.trans (hb.mono hb0.size)⟩
  simp [results, Tryz.results20, go_sem, *]
set_option maxRecDepth 100000 in
set_option maxHeartbeats 4000000 in
theorem text_rect (ns : List NL) (m : Nat) (hm : m ≤ 1024) (n : NL) (hn : ns[m]? = some n) (hk : n.kind = 3) : TextAt ns (m + 1) ⟨nameRectZ n.t n.l n.b n.q, 7⟩ 1 := by
  intro w A cap ht hcap hR
  obtain ⟨ab, ao, rfl, hab, hcell⟩ := hR m n.cs (by rw [List.getElem?_map, hn]; rfl)
  have hc0 : w.cell? ⟨ab, ao + m * 15, none⟩ = some (.int .i64 n.kind) := hcell 0 _ rfl
  have hc1 : w.cell? ⟨ab, ao + m * 15 + 1, none⟩ = some (.int .i64 n.v.t) := hcell 1 _ rfl
  have hc2 : w.cell? ⟨ab, ao + m * 15 + 2, none⟩ = some (.int .i64 n.v.n) := hcell 2 _ rfl
  have hc3 : w.cell? ⟨ab, ao + m * 15 + 3, none⟩ = some (.string n.v.s) := hcell 3 _ rfl
  have hc4 : w.cell? ⟨ab, ao + m * 15 + 4, none⟩ = some (.bool n.v.b) := hcell 4 _ rfl
  have hc5 : w.cell? ⟨ab, ao + m * 15 + 5, none⟩ = some (.int .i64 n.v.c) := hcell 5 _ rfl
  have hc6 : w.cell? ⟨ab, ao + m * 15 + 6, none⟩ = some (.int .i64 n.r) := hcell 6 _ rfl
  have hc7 : w.cell? ⟨ab, ao + m * 15 + 7, none⟩ = some (.int .i64 n.c) := hcell 7 _ rfl
  have hc8 : w.cell? ⟨ab, ao + m * 15 + 8, none⟩ = some (.int .i64 n.t) := hcell 8 _ rfl
  have hc9 : w.cell? ⟨ab, ao + m * 15 + 9, none⟩ = some (.int .i64 n.l) := hcell 9 _ rfl
  have hc10 : w.cell? ⟨ab, ao + m * 15 + 10, none⟩ = some (.int .i64 n.b) := hcell 10 _ rfl
  have hc11 : w.cell? ⟨ab, ao + m * 15 + 11, none⟩ = some (.int .i64 n.q) := hcell 11 _ rfl
  have hc12 : w.cell? ⟨ab, ao + m * 15 + 12, none⟩ = some (.int .i64 n.op) := hcell 12 _ rfl
  have hc13 : w.cell? ⟨ab, ao + m * 15 + 13, none⟩ = some (.string n.name) := hcell 13 _ rfl
  have hc14 : w.cell? ⟨ab, ao + m * 15 + 14, none⟩ = some (.int .i64 n.args) := hcell 14 _ rfl
  have hwk : IntKind.i64.wrap ((m : Int) + 1 - 1) = (m : Int) := by rw [IntWalk.i64_in _ (by omega)]; omega
  have hwp : IntKind.i64.wrap (m : Int) = (m : Int) := IntWalk.i64_in _ (by omega)
  have hi0 : (0 : Int) ≤ (m : Int) := by omega
  have hi1 : (m : Int) < (m : Int) + 1 := by omega
  have hne : ab ≠ w.heap.size := by omega
  have hRH := Lib.hid hR
  have htH := Lib.hid ht
  have hb0 : Below w.heap.size w (w.alloc (.cells #[.int .i64 n.kind, .int .i64 n.v.t, .int .i64 n.v.n, .string n.v.s, .bool n.v.b, .int .i64 n.v.c, .int .i64 n.r, .int .i64 n.c, .int .i64 n.t, .int .i64 n.l, .int .i64 n.b, .int .i64 n.q, .int .i64 n.op, .string n.name, .int .i64 n.args] 47)) := (Below.refl _ _).alloc (Nat.le_refl _) _
  clear hcell hn hR ht
  have fk1 : (n.kind == 1) = false := by rw [hk]; rfl
  have fk2 : (n.kind == 2) = false := by rw [hk]; rfl
  have fk3 : (n.kind == 3) = true := by rw [hk]; rfl
  have C : ∀ w0 : World, Calls Tryz.prog 43 #[.agg #[.int .i64 n.t, .int .i64 n.l, .int .i64 n.b, .int .i64 n.q]] w0 fun e w' => e = .returned (.string ⟨(nameRectZ n.t n.l n.b n.q).toArray⟩) ∧ Below w0.heap.size w0 w' := fun w0 => rnameR_any n.t n.l n.b n.q w0
  have CH := Lib.hid C
  clear C hk
  show Calls _ _ _ _ fun e w' => e = .returned (.tuple #[.string ⟨(nameRectZ n.t n.l n.b n.q).toArray⟩, .int .i64 7, .int .i64 1]) ∧ _
  generalize (⟨(nameRectZ n.t n.l n.b n.q).toArray⟩ : ByteArray) = r at *
  go_enter Tryz.func20, Tryz.ntmps20
  go_wp2_with fail
  go_at_call 43
  refine (CH.out _).mono ?_
  rintro e w1 ⟨rfl, hb⟩
  go_wp2
  refine bodyPost_ret (v := .tuple #[.string r, .int .i64 7, .int .i64 1]) ?_ rfl ⟨rfl, hb0.trans (hb.mono hb0.size)⟩
  simp [results, Tryz.results20, go_sem, *]
set_option maxRecDepth 100000 in
set_option maxHeartbeats 4000000 in
theorem text_num (ns : List NL) (m : Nat) (hm : m ≤ 1024) (n : NL) (hn : ns[m]? = some n) (hk : n.kind = 1) (hok : n.v.ok) (e1 : n.v.t = 1) : TextAt ns (m + 1) ⟨litT n.v, 7⟩ 1 := by
  intro w A cap ht hcap hR
  obtain ⟨ab, ao, rfl, hab, hcell⟩ := hR m n.cs (by rw [List.getElem?_map, hn]; rfl)
  have hc0 : w.cell? ⟨ab, ao + m * 15, none⟩ = some (.int .i64 n.kind) := hcell 0 _ rfl
  have hc1 : w.cell? ⟨ab, ao + m * 15 + 1, none⟩ = some (.int .i64 n.v.t) := hcell 1 _ rfl
  have hc2 : w.cell? ⟨ab, ao + m * 15 + 2, none⟩ = some (.int .i64 n.v.n) := hcell 2 _ rfl
  have hc3 : w.cell? ⟨ab, ao + m * 15 + 3, none⟩ = some (.string n.v.s) := hcell 3 _ rfl
  have hc4 : w.cell? ⟨ab, ao + m * 15 + 4, none⟩ = some (.bool n.v.b) := hcell 4 _ rfl
  have hc5 : w.cell? ⟨ab, ao + m * 15 + 5, none⟩ = some (.int .i64 n.v.c) := hcell 5 _ rfl
  have hc6 : w.cell? ⟨ab, ao + m * 15 + 6, none⟩ = some (.int .i64 n.r) := hcell 6 _ rfl
  have hc7 : w.cell? ⟨ab, ao + m * 15 + 7, none⟩ = some (.int .i64 n.c) := hcell 7 _ rfl
  have hc8 : w.cell? ⟨ab, ao + m * 15 + 8, none⟩ = some (.int .i64 n.t) := hcell 8 _ rfl
  have hc9 : w.cell? ⟨ab, ao + m * 15 + 9, none⟩ = some (.int .i64 n.l) := hcell 9 _ rfl
  have hc10 : w.cell? ⟨ab, ao + m * 15 + 10, none⟩ = some (.int .i64 n.b) := hcell 10 _ rfl
  have hc11 : w.cell? ⟨ab, ao + m * 15 + 11, none⟩ = some (.int .i64 n.q) := hcell 11 _ rfl
  have hc12 : w.cell? ⟨ab, ao + m * 15 + 12, none⟩ = some (.int .i64 n.op) := hcell 12 _ rfl
  have hc13 : w.cell? ⟨ab, ao + m * 15 + 13, none⟩ = some (.string n.name) := hcell 13 _ rfl
  have hc14 : w.cell? ⟨ab, ao + m * 15 + 14, none⟩ = some (.int .i64 n.args) := hcell 14 _ rfl
  have hwk : IntKind.i64.wrap ((m : Int) + 1 - 1) = (m : Int) := by rw [IntWalk.i64_in _ (by omega)]; omega
  have hwp : IntKind.i64.wrap (m : Int) = (m : Int) := IntWalk.i64_in _ (by omega)
  have hi0 : (0 : Int) ≤ (m : Int) := by omega
  have hi1 : (m : Int) < (m : Int) + 1 := by omega
  have hne : ab ≠ w.heap.size := by omega
  have hRH := Lib.hid hR
  have htH := Lib.hid ht
  have hb0 : Below w.heap.size w (w.alloc (.cells #[.int .i64 n.kind, .int .i64 n.v.t, .int .i64 n.v.n, .string n.v.s, .bool n.v.b, .int .i64 n.v.c, .int .i64 n.r, .int .i64 n.c, .int .i64 n.t, .int .i64 n.l, .int .i64 n.b, .int .i64 n.q, .int .i64 n.op, .string n.name, .int .i64 n.args] 47)) := (Below.refl _ _).alloc (Nat.le_refl _) _
  clear hcell hn hR ht
  have fk1 : (n.kind == 1) = true := by rw [hk]; rfl
  have g1 : (n.v.t == 1) = true := by rw [e1]; rfl
  have C : ∀ w0 : World, Calls Tryz.prog 39 #[.int .i64 n.v.n] w0 fun e w' => e = .returned (.string ⟨(litT n.v).toArray⟩) ∧ Below w0.heap.size w0 w' := fun w0 => by rw [show litT n.v = printL n.v.n by unfold litT; rw [if_pos e1]]; exact rprint_any n.v.n hok w0
  have CH := Lib.hid C
  clear C hk e1
  show Calls _ _ _ _ fun e w' => e = .returned (.tuple #[.string ⟨(litT n.v).toArray⟩, .int .i64 7, .int .i64 1]) ∧ _
  generalize (⟨(litT n.v).toArray⟩ : ByteArray) = r at *
  go_enter Tryz.func20, Tryz.ntmps20
  go_wp2_with fail
  go_at_call 39
  refine (CH.out _).mono ?_
  rintro e w1 ⟨rfl, hb⟩
  go_wp2
  refine bodyPost_ret (v := .tuple #[.string r, .int .i64 7, .int .i64 1]) ?_ rfl ⟨rfl, hb0.trans (hb.mono hb0.size)⟩
  simp [results, Tryz.results20, go_sem, *]
set_option maxRecDepth 100000 in
set_option maxHeartbeats 4000000 in
theorem text_txt (ns : List NL) (m : Nat) (hm : m ≤ 1024) (n : NL) (hn : ns[m]? = some n) (hk : n.kind = 1) (hsz : n.v.s.size ≤ 1048576) (e1 : n.v.t = 2) : TextAt ns (m + 1) ⟨litT n.v, 7⟩ 1 := by
  intro w A cap ht hcap hR
  obtain ⟨ab, ao, rfl, hab, hcell⟩ := hR m n.cs (by rw [List.getElem?_map, hn]; rfl)
  have hc0 : w.cell? ⟨ab, ao + m * 15, none⟩ = some (.int .i64 n.kind) := hcell 0 _ rfl
  have hc1 : w.cell? ⟨ab, ao + m * 15 + 1, none⟩ = some (.int .i64 n.v.t) := hcell 1 _ rfl
  have hc2 : w.cell? ⟨ab, ao + m * 15 + 2, none⟩ = some (.int .i64 n.v.n) := hcell 2 _ rfl
  have hc3 : w.cell? ⟨ab, ao + m * 15 + 3, none⟩ = some (.string n.v.s) := hcell 3 _ rfl
  have hc4 : w.cell? ⟨ab, ao + m * 15 + 4, none⟩ = some (.bool n.v.b) := hcell 4 _ rfl
  have hc5 : w.cell? ⟨ab, ao + m * 15 + 5, none⟩ = some (.int .i64 n.v.c) := hcell 5 _ rfl
  have hc6 : w.cell? ⟨ab, ao + m * 15 + 6, none⟩ = some (.int .i64 n.r) := hcell 6 _ rfl
  have hc7 : w.cell? ⟨ab, ao + m * 15 + 7, none⟩ = some (.int .i64 n.c) := hcell 7 _ rfl
  have hc8 : w.cell? ⟨ab, ao + m * 15 + 8, none⟩ = some (.int .i64 n.t) := hcell 8 _ rfl
  have hc9 : w.cell? ⟨ab, ao + m * 15 + 9, none⟩ = some (.int .i64 n.l) := hcell 9 _ rfl
  have hc10 : w.cell? ⟨ab, ao + m * 15 + 10, none⟩ = some (.int .i64 n.b) := hcell 10 _ rfl
  have hc11 : w.cell? ⟨ab, ao + m * 15 + 11, none⟩ = some (.int .i64 n.q) := hcell 11 _ rfl
  have hc12 : w.cell? ⟨ab, ao + m * 15 + 12, none⟩ = some (.int .i64 n.op) := hcell 12 _ rfl
  have hc13 : w.cell? ⟨ab, ao + m * 15 + 13, none⟩ = some (.string n.name) := hcell 13 _ rfl
  have hc14 : w.cell? ⟨ab, ao + m * 15 + 14, none⟩ = some (.int .i64 n.args) := hcell 14 _ rfl
  have hwk : IntKind.i64.wrap ((m : Int) + 1 - 1) = (m : Int) := by rw [IntWalk.i64_in _ (by omega)]; omega
  have hwp : IntKind.i64.wrap (m : Int) = (m : Int) := IntWalk.i64_in _ (by omega)
  have hi0 : (0 : Int) ≤ (m : Int) := by omega
  have hi1 : (m : Int) < (m : Int) + 1 := by omega
  have hne : ab ≠ w.heap.size := by omega
  have hRH := Lib.hid hR
  have htH := Lib.hid ht
  have hb0 : Below w.heap.size w (w.alloc (.cells #[.int .i64 n.kind, .int .i64 n.v.t, .int .i64 n.v.n, .string n.v.s, .bool n.v.b, .int .i64 n.v.c, .int .i64 n.r, .int .i64 n.c, .int .i64 n.t, .int .i64 n.l, .int .i64 n.b, .int .i64 n.q, .int .i64 n.op, .string n.name, .int .i64 n.args] 47)) := (Below.refl _ _).alloc (Nat.le_refl _) _
  clear hcell hn hR ht
  have fk1 : (n.kind == 1) = true := by rw [hk]; rfl
  have g1 : (n.v.t == 1) = false := by rw [e1]; rfl
  have g2 : (n.v.t == 2) = true := by rw [e1]; rfl
  have C : ∀ w0 : World, Calls Tryz.prog 40 #[.string n.v.s] w0 fun e w' => e = .returned (.string ⟨(litT n.v).toArray⟩) ∧ Below w0.heap.size w0 w' := fun w0 => by rw [show litT n.v = 34 :: (quotesL n.v.s.data.toList ++ [34]) by unfold litT; rw [if_neg (by omega), if_pos e1]]; have h := r7quoted n.v.s.data.toList (by rw [Array.length_toList]; exact hsz) w0; rw [Array.toArray_toList] at h; exact h.mono fun e w' ⟨a, b⟩ => ⟨a, by rw [← b]; exact Below.refl _ _⟩
  have CH := Lib.hid C
  clear C hk e1
  show Calls _ _ _ _ fun e w' => e = .returned (.tuple #[.string ⟨(litT n.v).toArray⟩, .int .i64 7, .int .i64 1]) ∧ _
  generalize (⟨(litT n.v).toArray⟩ : ByteArray) = r at *
  go_enter Tryz.func20, Tryz.ntmps20
  go_wp2_with fail
  go_at_call 40
  refine (CH.out _).mono ?_
  rintro e w1 ⟨rfl, hb⟩
  go_wp2
  refine bodyPost_ret (v := .tuple #[.string r, .int .i64 7, .int .i64 1]) ?_ rfl ⟨rfl, hb0.trans (hb.mono hb0.size)⟩
  simp [results, Tryz.results20, go_sem, *]
set_option maxRecDepth 100000 in
set_option maxHeartbeats 4000000 in
theorem text_show (ns : List NL) (m : Nat) (hm : m ≤ 1024) (n : NL) (hn : ns[m]? = some n) (hk : n.kind = 1) (hmay : n.v.may = true) (e1 : n.v.t = 3 ∨ n.v.t = 4) : TextAt ns (m + 1) ⟨litT n.v, 7⟩ 1 := by
  intro w A cap ht hcap hR
  obtain ⟨ab, ao, rfl, hab, hcell⟩ := hR m n.cs (by rw [List.getElem?_map, hn]; rfl)
  have hc0 : w.cell? ⟨ab, ao + m * 15, none⟩ = some (.int .i64 n.kind) := hcell 0 _ rfl
  have hc1 : w.cell? ⟨ab, ao + m * 15 + 1, none⟩ = some (.int .i64 n.v.t) := hcell 1 _ rfl
  have hc2 : w.cell? ⟨ab, ao + m * 15 + 2, none⟩ = some (.int .i64 n.v.n) := hcell 2 _ rfl
  have hc3 : w.cell? ⟨ab, ao + m * 15 + 3, none⟩ = some (.string n.v.s) := hcell 3 _ rfl
  have hc4 : w.cell? ⟨ab, ao + m * 15 + 4, none⟩ = some (.bool n.v.b) := hcell 4 _ rfl
  have hc5 : w.cell? ⟨ab, ao + m * 15 + 5, none⟩ = some (.int .i64 n.v.c) := hcell 5 _ rfl
  have hc6 : w.cell? ⟨ab, ao + m * 15 + 6, none⟩ = some (.int .i64 n.r) := hcell 6 _ rfl
  have hc7 : w.cell? ⟨ab, ao + m * 15 + 7, none⟩ = some (.int .i64 n.c) := hcell 7 _ rfl
  have hc8 : w.cell? ⟨ab, ao + m * 15 + 8, none⟩ = some (.int .i64 n.t) := hcell 8 _ rfl
  have hc9 : w.cell? ⟨ab, ao + m * 15 + 9, none⟩ = some (.int .i64 n.l) := hcell 9 _ rfl
  have hc10 : w.cell? ⟨ab, ao + m * 15 + 10, none⟩ = some (.int .i64 n.b) := hcell 10 _ rfl
  have hc11 : w.cell? ⟨ab, ao + m * 15 + 11, none⟩ = some (.int .i64 n.q) := hcell 11 _ rfl
  have hc12 : w.cell? ⟨ab, ao + m * 15 + 12, none⟩ = some (.int .i64 n.op) := hcell 12 _ rfl
  have hc13 : w.cell? ⟨ab, ao + m * 15 + 13, none⟩ = some (.string n.name) := hcell 13 _ rfl
  have hc14 : w.cell? ⟨ab, ao + m * 15 + 14, none⟩ = some (.int .i64 n.args) := hcell 14 _ rfl
  have hwk : IntKind.i64.wrap ((m : Int) + 1 - 1) = (m : Int) := by rw [IntWalk.i64_in _ (by omega)]; omega
  have hwp : IntKind.i64.wrap (m : Int) = (m : Int) := IntWalk.i64_in _ (by omega)
  have hi0 : (0 : Int) ≤ (m : Int) := by omega
  have hi1 : (m : Int) < (m : Int) + 1 := by omega
  have hne : ab ≠ w.heap.size := by omega
  have hRH := Lib.hid hR
  have htH := Lib.hid ht
  have hb0 : Below w.heap.size w (w.alloc (.cells #[.int .i64 n.kind, .int .i64 n.v.t, .int .i64 n.v.n, .string n.v.s, .bool n.v.b, .int .i64 n.v.c, .int .i64 n.r, .int .i64 n.c, .int .i64 n.t, .int .i64 n.l, .int .i64 n.b, .int .i64 n.q, .int .i64 n.op, .string n.name, .int .i64 n.args] 47)) := (Below.refl _ _).alloc (Nat.le_refl _) _
  clear hcell hn hR ht
  have fk1 : (n.kind == 1) = true := by rw [hk]; rfl
  have g1 : (n.v.t == 1) = false := by simp; omega
  have g2 : (n.v.t == 2) = false := by simp; omega
  have C : ∀ w0 : World, Calls Tryz.prog 41 #[.agg #[.int .i64 n.v.t, .int .i64 n.v.n, .string n.v.s, .bool n.v.b, .int .i64 n.v.c]] w0 fun e w' => e = .returned (.string ⟨(litT n.v).toArray⟩) ∧ Below w0.heap.size w0 w' := fun w0 => show_any n.v hmay e1 w0
  have CH := Lib.hid C
  clear C hk e1
  show Calls _ _ _ _ fun e w' => e = .returned (.tuple #[.string ⟨(litT n.v).toArray⟩, .int .i64 7, .int .i64 1]) ∧ _
  generalize (⟨(litT n.v).toArray⟩ : ByteArray) = r at *
  go_enter Tryz.func20, Tryz.ntmps20
  go_wp2_with fail
  go_at_call 41
  refine (CH.out _).mono ?_
  rintro e w1 ⟨rfl, hb⟩
  go_wp2
  refine bodyPost_ret (v := .tuple #[.string r, .int .i64 7, .int .i64 1]) ?_ rfl ⟨rfl, hb0.trans (hb.mono hb0.size)⟩
  simp [results, Tryz.results20, go_sem, *]
set_option maxRecDepth 100000 in
set_option maxHeartbeats 4000000 in
theorem text_neg (ns : List NL) (m : Nat) (hm : m ≤ 1024) (n : NL) (hn : ns[m]? = some n) (hk : n.kind = 4) (ho : n.op = 1) (hm1 : 1 ≤ m) (x : TL) (k : Nat) (hkm : k ≤ m) (hxl : x.text.length ≤ 3000000000) (hx : TextAt ns m x k) (r : List UInt8) (hr : x.at' (levelI n.op) = r) : TextAt ns (m + 1) ⟨45 :: r, levelI n.op⟩ (k + 1) := by
  intro w A cap ht hcap hR
  obtain ⟨ab, ao, rfl, hab, hcell⟩ := hR m n.cs (by rw [List.getElem?_map, hn]; rfl)
  have hc0 : w.cell? ⟨ab, ao + m * 15, none⟩ = some (.int .i64 n.kind) := hcell 0 _ rfl
  have hc1 : w.cell? ⟨ab, ao + m * 15 + 1, none⟩ = some (.int .i64 n.v.t) := hcell 1 _ rfl
  have hc2 : w.cell? ⟨ab, ao + m * 15 + 2, none⟩ = some (.int .i64 n.v.n) := hcell 2 _ rfl
  have hc3 : w.cell? ⟨ab, ao + m * 15 + 3, none⟩ = some (.string n.v.s) := hcell 3 _ rfl
  have hc4 : w.cell? ⟨ab, ao + m * 15 + 4, none⟩ = some (.bool n.v.b) := hcell 4 _ rfl
  have hc5 : w.cell? ⟨ab, ao + m * 15 + 5, none⟩ = some (.int .i64 n.v.c) := hcell 5 _ rfl
  have hc6 : w.cell? ⟨ab, ao + m * 15 + 6, none⟩ = some (.int .i64 n.r) := hcell 6 _ rfl
  have hc7 : w.cell? ⟨ab, ao + m * 15 + 7, none⟩ = some (.int .i64 n.c) := hcell 7 _ rfl
  have hc8 : w.cell? ⟨ab, ao + m * 15 + 8, none⟩ = some (.int .i64 n.t) := hcell 8 _ rfl
  have hc9 : w.cell? ⟨ab, ao + m * 15 + 9, none⟩ = some (.int .i64 n.l) := hcell 9 _ rfl
  have hc10 : w.cell? ⟨ab, ao + m * 15 + 10, none⟩ = some (.int .i64 n.b) := hcell 10 _ rfl
  have hc11 : w.cell? ⟨ab, ao + m * 15 + 11, none⟩ = some (.int .i64 n.q) := hcell 11 _ rfl
  have hc12 : w.cell? ⟨ab, ao + m * 15 + 12, none⟩ = some (.int .i64 n.op) := hcell 12 _ rfl
  have hc13 : w.cell? ⟨ab, ao + m * 15 + 13, none⟩ = some (.string n.name) := hcell 13 _ rfl
  have hc14 : w.cell? ⟨ab, ao + m * 15 + 14, none⟩ = some (.int .i64 n.args) := hcell 14 _ rfl
  have hwk : IntKind.i64.wrap ((m : Int) + 1 - 1) = (m : Int) := by rw [IntWalk.i64_in _ (by omega)]; omega
  have hwp : IntKind.i64.wrap (m : Int) = (m : Int) := IntWalk.i64_in _ (by omega)
  have hi0 : (0 : Int) ≤ (m : Int) := by omega
  have hi1 : (m : Int) < (m : Int) + 1 := by omega
  have hne : ab ≠ w.heap.size := by omega
  have hRH := Lib.hid hR
  have htH := Lib.hid ht
  have hb0 : Below w.heap.size w (w.alloc (.cells #[.int .i64 n.kind, .int .i64 n.v.t, .int .i64 n.v.n, .string n.v.s, .bool n.v.b, .int .i64 n.v.c, .int .i64 n.r, .int .i64 n.c, .int .i64 n.t, .int .i64 n.l, .int .i64 n.b, .int .i64 n.q, .int .i64 n.op, .string n.name, .int .i64 n.args] 47)) := (Below.refl _ _).alloc (Nat.le_refl _) _
  clear hcell hn hR ht
  have fk1 : (n.kind == 1) = false := by rw [hk]; rfl
  have fk2 : (n.kind == 2) = false := by rw [hk]; rfl
  have fk3 : (n.kind == 3) = false := by rw [hk]; rfl
  have fk5 : (n.kind == 5) = false := by rw [hk]; rfl
  have g1 : (n.op == 1) = true := by rw [ho]; rfl
  have ho1 : 1 ≤ n.op := by omega
  have ho2 : n.op ≤ 13 := by omega
  obtain ⟨lv, hlv⟩ : ∃ lv, levelI n.op = lv := ⟨_, rfl⟩
  have hlvb : 1 ≤ lv ∧ lv ≤ 6 := by rw [← hlv]; unfold levelI; (repeat' split) <;> omega
  have CV : ∀ w0 : World, Calls Tryz.prog 44 #[.int .i64 n.op] w0 fun e w' => e = .returned (.int .i64 lv) ∧ w0 = w' := fun w0 => by rw [← hlv]; exact rref_level n.op ho1 ho2 w0
  have CVH := Lib.hid CV
  clear CV
  rw [hlv] at hr ⊢
  have hrl : r.length ≤ 3000000002 := by have := at_len x lv; rw [hr] at this; omega
  have CB : ∀ w0 : World, Calls Tryz.prog 45 #[.string ⟨x.text.toArray⟩, .int .i64 x.binds, .int .i64 lv] w0 fun e w' => e = .returned (.string ⟨r.toArray⟩) ∧ w0 = w' := fun w0 => r7bound x lv (by omega) r hr w0
  have CBH := Lib.hid CB
  have CX : ∀ w0 : World, Below w.heap.size w w0 → Calls Tryz.prog 20 #[.slice (some ⟨ab, ao, none⟩) (m) cap] w0 fun e w' => e = .returned (.tuple #[.string ⟨x.text.toArray⟩, .int .i64 x.binds, .int .i64 ((k : Nat) : Int)]) ∧ Below w0.heap.size w0 w' := fun w0 hb => hx w0 _ cap (Tab.below htH.out hb) (by omega) ((hRH.out.below hb).mono hb.size)
  have CXH := Lib.hid CX
  clear CX
  have hwx : IntKind.i64.wrap ((k : Int) + 1) = (k : Int) + 1 := IntWalk.i64_in _ (by omega)
  have hmc : m ≤ cap := by omega
  have hb1 : (w.alloc (.cells #[.int .i64 n.kind, .int .i64 n.v.t, .int .i64 n.v.n, .string n.v.s, .bool n.v.b, .int .i64 n.v.c, .int .i64 n.r, .int .i64 n.c, .int .i64 n.t, .int .i64 n.l, .int .i64 n.b, .int .i64 n.q, .int .i64 n.op, .string n.name, .int .i64 n.args] 47)).cell? ⟨w.heap.size, 12, none⟩ = some (.int .i64 n.op) := by simp [go_sem]
  clear hk ho ho1 ho2 hlv hr CB hx
  go_enter Tryz.func20, Tryz.ntmps20
  go_wp2_with fail
  go_at_call 44
  refine (CVH.out _).mono ?_
  rintro e w1 ⟨rfl, rfl⟩
  go_wp2_with fail
  go_at_call 20
  refine (CXH.out _ hb0).mono ?_
  rintro e w1 ⟨rfl, hb⟩
  have hb2 : w1.cell? ⟨w.heap.size, 12, none⟩ = some (.int .i64 n.op) := (hb.cell (p := ⟨w.heap.size, 12, none⟩) (by show w.heap.size < (World.alloc _ _).heap.size; simp)).trans hb1
  go_wp2_with fail
  go_at_call 45
  refine (CBH.out _).mono ?_
  rintro e w2 ⟨rfl, rfl⟩
  go_wp2
  refine bodyPost_ret (v := .tuple #[.string (⟨#[45]⟩ ++ ⟨r.toArray⟩), .int .i64 lv, .int .i64 ((k : Int) + 1)]) ?_ rfl ⟨by rw [show (⟨(45 :: r : List UInt8).toArray⟩ : ByteArray) = ⟨#[45]⟩ ++ ⟨r.toArray⟩ by apply ByteArray.ext; simp]; rfl, hb0.trans (hb.mono hb0.size)⟩
  simp [results, Tryz.results20, go_sem, *]
set_option maxRecDepth 100000 in
set_option maxHeartbeats 4000000 in
theorem text_pct (ns : List NL) (m : Nat) (hm : m ≤ 1024) (n : NL) (hn : ns[m]? = some n) (hk : n.kind = 4) (ho : n.op = 2) (hm1 : 1 ≤ m) (x : TL) (k : Nat) (hkm : k ≤ m) (hxl : x.text.length ≤ 3000000000) (hx : TextAt ns m x k) (r : List UInt8) (hr : x.at' (levelI n.op) = r) : TextAt ns (m + 1) ⟨r ++ [37], levelI n.op⟩ (k + 1) := by
  intro w A cap ht hcap hR
  obtain ⟨ab, ao, rfl, hab, hcell⟩ := hR m n.cs (by rw [List.getElem?_map, hn]; rfl)
  have hc0 : w.cell? ⟨ab, ao + m * 15, none⟩ = some (.int .i64 n.kind) := hcell 0 _ rfl
  have hc1 : w.cell? ⟨ab, ao + m * 15 + 1, none⟩ = some (.int .i64 n.v.t) := hcell 1 _ rfl
  have hc2 : w.cell? ⟨ab, ao + m * 15 + 2, none⟩ = some (.int .i64 n.v.n) := hcell 2 _ rfl
  have hc3 : w.cell? ⟨ab, ao + m * 15 + 3, none⟩ = some (.string n.v.s) := hcell 3 _ rfl
  have hc4 : w.cell? ⟨ab, ao + m * 15 + 4, none⟩ = some (.bool n.v.b) := hcell 4 _ rfl
  have hc5 : w.cell? ⟨ab, ao + m * 15 + 5, none⟩ = some (.int .i64 n.v.c) := hcell 5 _ rfl
  have hc6 : w.cell? ⟨ab, ao + m * 15 + 6, none⟩ = some (.int .i64 n.r) := hcell 6 _ rfl
  have hc7 : w.cell? ⟨ab, ao + m * 15 + 7, none⟩ = some (.int .i64 n.c) := hcell 7 _ rfl
  have hc8 : w.cell? ⟨ab, ao + m * 15 + 8, none⟩ = some (.int .i64 n.t) := hcell 8 _ rfl
  have hc9 : w.cell? ⟨ab, ao + m * 15 + 9, none⟩ = some (.int .i64 n.l) := hcell 9 _ rfl
  have hc10 : w.cell? ⟨ab, ao + m * 15 + 10, none⟩ = some (.int .i64 n.b) := hcell 10 _ rfl
  have hc11 : w.cell? ⟨ab, ao + m * 15 + 11, none⟩ = some (.int .i64 n.q) := hcell 11 _ rfl
  have hc12 : w.cell? ⟨ab, ao + m * 15 + 12, none⟩ = some (.int .i64 n.op) := hcell 12 _ rfl
  have hc13 : w.cell? ⟨ab, ao + m * 15 + 13, none⟩ = some (.string n.name) := hcell 13 _ rfl
  have hc14 : w.cell? ⟨ab, ao + m * 15 + 14, none⟩ = some (.int .i64 n.args) := hcell 14 _ rfl
  have hwk : IntKind.i64.wrap ((m : Int) + 1 - 1) = (m : Int) := by rw [IntWalk.i64_in _ (by omega)]; omega
  have hwp : IntKind.i64.wrap (m : Int) = (m : Int) := IntWalk.i64_in _ (by omega)
  have hi0 : (0 : Int) ≤ (m : Int) := by omega
  have hi1 : (m : Int) < (m : Int) + 1 := by omega
  have hne : ab ≠ w.heap.size := by omega
  have hRH := Lib.hid hR
  have htH := Lib.hid ht
  have hb0 : Below w.heap.size w (w.alloc (.cells #[.int .i64 n.kind, .int .i64 n.v.t, .int .i64 n.v.n, .string n.v.s, .bool n.v.b, .int .i64 n.v.c, .int .i64 n.r, .int .i64 n.c, .int .i64 n.t, .int .i64 n.l, .int .i64 n.b, .int .i64 n.q, .int .i64 n.op, .string n.name, .int .i64 n.args] 47)) := (Below.refl _ _).alloc (Nat.le_refl _) _
  clear hcell hn hR ht
  have fk1 : (n.kind == 1) = false := by rw [hk]; rfl
  have fk2 : (n.kind == 2) = false := by rw [hk]; rfl
  have fk3 : (n.kind == 3) = false := by rw [hk]; rfl
  have fk5 : (n.kind == 5) = false := by rw [hk]; rfl
  have g1 : (n.op == 1) = false := by rw [ho]; rfl
  have g2 : (n.op == 2) = true := by rw [ho]; rfl
  have ho1 : 1 ≤ n.op := by omega
  have ho2 : n.op ≤ 13 := by omega
  obtain ⟨lv, hlv⟩ : ∃ lv, levelI n.op = lv := ⟨_, rfl⟩
  have hlvb : 1 ≤ lv ∧ lv ≤ 6 := by rw [← hlv]; unfold levelI; (repeat' split) <;> omega
  have CV : ∀ w0 : World, Calls Tryz.prog 44 #[.int .i64 n.op] w0 fun e w' => e = .returned (.int .i64 lv) ∧ w0 = w' := fun w0 => by rw [← hlv]; exact rref_level n.op ho1 ho2 w0
  have CVH := Lib.hid CV
  clear CV
  rw [hlv] at hr ⊢
  have hrl : r.length ≤ 3000000002 := by have := at_len x lv; rw [hr] at this; omega
  have CB : ∀ w0 : World, Calls Tryz.prog 45 #[.string ⟨x.text.toArray⟩, .int .i64 x.binds, .int .i64 lv] w0 fun e w' => e = .returned (.string ⟨r.toArray⟩) ∧ w0 = w' := fun w0 => r7bound x lv (by omega) r hr w0
  have CBH := Lib.hid CB
  have CX : ∀ w0 : World, Below w.heap.size w w0 → Calls Tryz.prog 20 #[.slice (some ⟨ab, ao, none⟩) (m) cap] w0 fun e w' => e = .returned (.tuple #[.string ⟨x.text.toArray⟩, .int .i64 x.binds, .int .i64 ((k : Nat) : Int)]) ∧ Below w0.heap.size w0 w' := fun w0 hb => hx w0 _ cap (Tab.below htH.out hb) (by omega) ((hRH.out.below hb).mono hb.size)
  have CXH := Lib.hid CX
  clear CX
  have hwx : IntKind.i64.wrap ((k : Int) + 1) = (k : Int) + 1 := IntWalk.i64_in _ (by omega)
  have hmc : m ≤ cap := by omega
  have hb1 : (w.alloc (.cells #[.int .i64 n.kind, .int .i64 n.v.t, .int .i64 n.v.n, .string n.v.s, .bool n.v.b, .int .i64 n.v.c, .int .i64 n.r, .int .i64 n.c, .int .i64 n.t, .int .i64 n.l, .int .i64 n.b, .int .i64 n.q, .int .i64 n.op, .string n.name, .int .i64 n.args] 47)).cell? ⟨w.heap.size, 12, none⟩ = some (.int .i64 n.op) := by simp [go_sem]
  clear hk ho ho1 ho2 hlv hr CB hx
  go_enter Tryz.func20, Tryz.ntmps20
  go_wp2_with fail
  go_at_call 44
  refine (CVH.out _).mono ?_
  rintro e w1 ⟨rfl, rfl⟩
  go_wp2_with fail
  go_at_call 20
  refine (CXH.out _ hb0).mono ?_
  rintro e w1 ⟨rfl, hb⟩
  have hb2 : w1.cell? ⟨w.heap.size, 12, none⟩ = some (.int .i64 n.op) := (hb.cell (p := ⟨w.heap.size, 12, none⟩) (by show w.heap.size < (World.alloc _ _).heap.size; simp)).trans hb1
  go_wp2_with fail
  go_at_call 45
  refine (CBH.out _).mono ?_
  rintro e w2 ⟨rfl, rfl⟩
  go_wp2
  refine bodyPost_ret (v := .tuple #[.string (⟨r.toArray⟩ ++ ⟨#[37]⟩), .int .i64 lv, .int .i64 ((k : Int) + 1)]) ?_ rfl ⟨by rw [show (⟨(r ++ [37] : List UInt8).toArray⟩ : ByteArray) = ⟨r.toArray⟩ ++ ⟨#[37]⟩ by apply ByteArray.ext; simp]; rfl, hb0.trans (hb.mono hb0.size)⟩
  simp [results, Tryz.results20, go_sem, *]
end Go.Proofs.YtfbkoieodflcpaaGreatDoor
