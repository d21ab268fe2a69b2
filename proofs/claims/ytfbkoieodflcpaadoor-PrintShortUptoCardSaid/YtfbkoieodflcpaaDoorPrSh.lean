/-
  oriellaw07.PrintShort: the walk.
-/
import Derived.Test.YtfbkoieodflcpaaDoorMg4
import Derived.Test.YtfbkoieodflcpaaDoorRows
import Derived.Test.YtfbkoieodflcpaaDoorBase
import Derived.Test.YtfbkoieodflcpaaDoorProg
import Derived.Test.YtfbkoieodflcpaaDoorShelf
import Derived.Test.YtfbkoieodflcpaaDoorAddrC
import Derived.Test.YtfbkoieodflcpaaDoorNames
import Derived.Test.YtfbkoieodflcpaaDoorMg7
import Derived.Test.YtfbkoieodflcpaaDoorDecA
import Derived.Test.YtfbkoieodflcpaaDoorValA
import Derived.Test.YtfbkoieodflcpaaDoorValB
import Derived.Test.YtfbkoieodflcpaaDoorMg11
import Derived.Test.YtfbkoieodflcpaaDoorLexP
import Derived.Test.YtfbkoieodflcpaaDoorRowB
import Derived.Test.YtfbkoieodflcpaaDoorMapK
import Derived.Test.YtfbkoieodflcpaaDoorArgK
import Derived.Test.YtfbkoieodflcpaaDoorRefP
import Derived.Test.YtfbkoieodflcpaaDoorMg17
import Derived.Test.YtfbkoieodflcpaaDoorRefN
import Derived.Test.YtfbkoieodflcpaaDoorRefM
import Derived.Test.YtfbkoieodflcpaaDoorRefY
import Derived.Test.YtfbkoieodflcpaaDoorRefQ
import Derived.Test.YtfbkoieodflcpaaDoorRefZ
import Derived.Test.YtfbkoieodflcpaaDoorRefD
import Derived.Test.YtfbkoieodflcpaaDoorRefC
import Derived.Test.YtfbkoieodflcpaaDoorShelfC
import Derived.Test.YtfbkoieodflcpaaDoorFmtU
import Derived.Test.YtfbkoieodflcpaaDoorNameX
import Derived.Test.YtfbkoieodflcpaaDoorNameY
import Derived.Test.YtfbkoieodflcpaaDoorDPrint
import Derived.Test.YtfbkoieodflcpaaDoorValL
import Derived.Test.YtfbkoieodflcpaaDoorPrP
import Derived.Test.YtfbkoieodflcpaaDoorPrA
import Derived.Test.YtfbkoieodflcpaaDoorPrS
import Derived.Test.YtfbkoieodflcpaaDoorPrT
import Derived.Test.YtfbkoieodflcpaaDoorBld
import Derived.Test.YtfbkoieodflcpaaDoorPrB
import Derived.Test.YtfbkoieodflcpaaDoorPrL
import Derived.Test.YtfbkoieodflcpaaDoorRNam
import Derived.Test.YtfbkoieodflcpaaDoorRNod
import Derived.Test.YtfbkoieodflcpaaDoorRLev
import Derived.Test.YtfbkoieodflcpaaDoorRNodB
import Derived.Test.YtfbkoieodflcpaaDoorRPt
import Derived.Test.YtfbkoieodflcpaaDoorRPtB
import Derived.Test.YtfbkoieodflcpaaDoorRPut
import Derived.Test.YtfbkoieodflcpaaDoorRDep
import Derived.WalkSpells
import Derived.WalkLawsBesides
import Derived.StillTactics
import Derived.Laws.Pointers
import Derived.Deep.RegionHeld3
import Derived.Deep.QuietTactic
import Derived.BigQuiet
import Derived.RowKit3
import Derived.Lib.Hide
import Derived.Lib.OthersKept
import Derived.OwnWalk
import Derived.Lib.IndexLaws
import Derived.Lib.ItoaMem
import Derived.Lib.TrimByte
import Derived.Lib.SlTrimSet
import Derived.Lib.ParseIntB
import Derived.WalkKit
import Derived.ProofKit
import Derived.OpenShut
import Derived.Carry
import Derived.ChangeSame
import Derived.Deep.Draws
import Derived.Shelf.Strings.Builder1
import Derived.Shelf.Strings.Builder2
import Derived.Shelf.Strings.Trim
import Derived.Shelf.Small.Utf8
import Derived.Shelf.Small.Strs
import Derived.Shelf.Strings.BuilderF
import Derived.Shelf.Strings.BuilderK
import Derived.Shelf.Strconv.Itoa0
import Derived.Shelf.Strconv.Itoa1
import Derived.Shelf.LaysM
import Derived.Shelf.Strconv.Itoa2
import Derived.Shelf.Strconv.Itoa3
import Derived.Shelf.Strings.Search1
import Derived.Shelf.Strings.Search2
import Derived.Shelf.Strings.Search3
import Derived.Shelf.Strings.Count
import Derived.Shelf.Strings.Shaped
import Derived.Shelf.Strings.Split
import Derived.Shelf.Strings.Replace
import Derived.Shelf.Strings.Runes
import Derived.Shelf.Strings.AsciiSet
import Derived.Shelf.Unicode.DecodeSlow
import Derived.Lib.ItoaNum
import Derived.Maps.OwnSet
import Derived.Maps.AppendAt
import Derived.Outline
import Derived.Deep.CutRange
import Derived.Lib.Bytealg
import Derived.Lib.Replace
import Derived.Deep.AppendLies
namespace Go.Proofs.YtfbkoieodflcpaaDoor
open Go.RowKit

theorem put_tot (l : List NL) (hp : putP l ≠ none) (hok : ∀ n ∈ l, n.ok) (hs : ∀ n ∈ l, n.v.s.size ≤ 1048576) : ∀ j, j ≤ l.length → totT (putT (l.take j)) ≤ j * 2097160 ∧ (putT (l.take j)).length ≤ j := fun j => by
  induction j with
  | zero => exact fun _ => ⟨Nat.zero_le _, Nat.le_refl _⟩
  | succ j ih =>
    intro hj
    obtain ⟨h1, h2⟩ := ih (by omega)
    have hn : l[j]? = some (l[j]'(by omega)) := List.getElem?_eq_getElem _
    have hm := List.mem_of_getElem? hn
    have hr := round_of hp hn (hok _ hm).1 (hs _ hm) rfl h2 h1
    rw [hr.put]
    exact ⟨hr.tot, hr.len⟩
theorem form_len {l : List NL} (hc : checkP l = true) (hok : ∀ n ∈ l, n.ok) (hs : ∀ n ∈ l, n.v.s.size ≤ 1048576) : (formT l).length ≤ 3000000000 := by
  obtain ⟨h1, h2, h3, x, hx⟩ := check_yes hc
  have h := (put_tot l h3 hok hs l.length (Nat.le_refl _)).1
  rw [List.take_of_length_le (Nat.le_refl _), hx, totT_one] at h
  unfold formT
  rw [hx]
  show (61 :: x.text).length ≤ _
  rw [List.length_cons]
  omega
theorem check_depth {l : List NL} (h : checkP l = true) : ∃ d, depthP l = some d := by
  unfold checkP at h
  cases hd : depthP l with
  | none => rw [hd] at h; cases h
  | some d => exact ⟨d, rfl⟩
theorem scan_take (st : Option (Int × Int × Bool)) (l : List UInt8) (j : Nat) (h : j < l.length) : scanL st (l.take (j + 1)) = scanB (scanL st (l.take j)) l[j] := by
  rw [List.take_add_one, List.getElem?_eq_getElem h, Option.toList_some, scan_app]
  rfl
theorem scan_some (st : Option (Int × Int × Bool)) (l : List UInt8) (j : Nat) (h : scanL st l ≠ none) : scanL st (l.take j) ≠ none := fun e => h (by
  rw [← List.take_append_drop j l, scan_app, e, scan_none])
theorem scanB_cases (o m : Int) (q : Bool) (b : UInt8) (h : scanB (some (o, m, q)) b ≠ none) :
    (b.toNat = 34 ∧ scanB (some (o, m, q)) b = some (o, m, !q)) ∨ (b.toNat ≠ 34 ∧ q = true ∧ scanB (some (o, m, q)) b = some (o, m, true)) ∨
    (q = false ∧ b.toNat = 40 ∧ scanB (some (o, m, q)) b = some (o + 1, max m (o + 1), false)) ∨ (q = false ∧ b.toNat = 41 ∧ 1 ≤ o ∧ scanB (some (o, m, q)) b = some (o - 1, m, false)) ∨
    (q = false ∧ b.toNat ≠ 34 ∧ b.toNat ≠ 32 ∧ b.toNat ≠ 40 ∧ b.toNat ≠ 41 ∧ scanB (some (o, m, q)) b = some (o, m, false)) := by
  have key : ∀ k : UInt8, (b = k) ↔ b.toNat = k.toNat := fun k => ⟨fun e => by rw [e], fun e => UInt8.toNat_inj.1 e⟩
  have k34 := key 34
  have k32 := key 32
  have k40 := key 40
  have k41 := key 41
  change b = 34 ↔ b.toNat = 34 at k34
  change b = 32 ↔ b.toNat = 32 at k32
  change b = 40 ↔ b.toNat = 40 at k40
  change b = 41 ↔ b.toNat = 41 at k41
  unfold scanB at *
  simp only [Option.bind_some] at *
  by_cases h34 : b = 34
  · exact Or.inl ⟨k34.1 h34, by rw [if_pos h34]⟩
  rw [if_neg h34] at *
  cases q with
  | true => exact Or.inr (Or.inl ⟨fun e => h34 (k34.2 e), rfl, by rw [if_pos rfl]⟩)
  | false =>
    rw [if_neg (by decide)] at *
    by_cases h32 : b = 32
    · rw [if_pos h32] at h; exact absurd rfl h
    rw [if_neg h32] at *
    by_cases h40 : b = 40
    · exact Or.inr (Or.inr (Or.inl ⟨rfl, k40.1 h40, by rw [if_pos h40]⟩))
    rw [if_neg h40] at *
    by_cases h41 : b = 41
    · rw [if_pos h41] at *
      by_cases ho : o - 1 < 0
      · rw [if_pos ho] at h; exact absurd rfl h
      · exact Or.inr (Or.inr (Or.inr (Or.inl ⟨rfl, k41.1 h41, by omega, by rw [if_neg ho]⟩)))
    · exact Or.inr (Or.inr (Or.inr (Or.inr ⟨rfl, fun e => h34 (k34.2 e), fun e => h32 (k32.2 e), fun e => h40 (k40.2 e), fun e => h41 (k41.2 e), by rw [if_neg h41]⟩)))
set_option maxRecDepth 100000 in
set_option maxHeartbeats 4000000 in
theorem pshort_no (ns : List NL) (hlen : ns.length ≤ 9223372036854775807) (hok : ∀ n ∈ ns, n.ok) (w : World) (ht : Tab w) (A : Option Addr) (cap : Nat) (hR : RdB w w.heap.size A 15 (ns.map NL.cs)) (hc : checkP ns = false) : Calls Tryd.prog 4 #[.agg #[.slice A ns.length cap]] w fun e w' => e = .returned (.bool true) ∧ Below w.heap.size w w' := by
  have C : ∀ w0 : World, Below w.heap.size w w0 → Calls Tryd.prog 6 #[.agg #[.slice A ns.length cap]] w0 fun e w' => e = .returned (.tuple #[.string ⟨#[]⟩, .int .i64 20]) ∧ Below w0.heap.size w0 w' := fun w0 hb0 => print_no ns hlen hok w0 A cap ((hR.below hb0).mono hb0.size) hc
  have CH := Lib.hid C
  have htH := Lib.hid ht
  clear C hR hc hok ht
  go_enter Tryd.func4, Tryd.ntmps4
  go_wp2_with fail
  go_at_call 6
  refine (CH.out _ ((Below.refl _ _).alloc (Nat.le_refl _) _)).mono ?_
  rintro e w1 ⟨rfl, hb⟩
  have hbr : Below w.heap.size w w1 := ((Below.refl _ _).alloc (Nat.le_refl _) (.cells #[.slice A ns.length cap] 24)).trans (hb.mono (by simp))
  clear hb
  go_wp2_with fail
  go_at_call 7
  refine (plives _ (Tab.below htH.out hbr)).mono ?_
  rintro e w2 ⟨rfl, hb⟩
  have hbr2 := hbr.trans (hb.mono hbr.size)
  go_wp2
  go_ret
  exact ⟨rfl, hbr2⟩
set_option maxRecDepth 100000 in
set_option maxHeartbeats 8000000 in
theorem pshort_yes (ns : List NL) (hlen : ns.length ≤ 9223372036854775807) (hok : ∀ n ∈ ns, n.ok) (hsz : ∀ n ∈ ns, n.v.s.size ≤ 1048576) (w : World) (ht : Tab w) (A : Option Addr) (cap : Nat) (hR : RdB w w.heap.size A 15 (ns.map NL.cs)) (hc : checkP ns = true) : Calls Tryd.prog 4 #[.agg #[.slice A ns.length cap]] w fun e w' => e = .returned (.bool true) ∧ Below w.heap.size w w' := by
  obtain ⟨h1, h2, _, _⟩ := check_yes hc
  obtain ⟨d, hd⟩ := check_depth hc
  obtain ⟨hsc, hd0⟩ := form_scan hd
  have hll := form_len hc hok hsz
  have C : ∀ w0 : World, Below w.heap.size w w0 → Calls Tryd.prog 6 #[.agg #[.slice A ns.length cap]] w0 fun e w' => e = .returned (.tuple #[.string ⟨(formT ns).toArray⟩, .int .i64 0]) ∧ Below w0.heap.size w0 w' := fun w0 hb0 => print_yes ns hlen hok hsz w0 (Tab.below ht hb0) A cap ((hR.below hb0).mono hb0.size) hc
  have CD : ∀ w0 : World, Below w.heap.size w w0 → Calls Tryd.prog 9 #[.agg #[.slice A ns.length cap]] w0 fun e w' => e = .returned (.int .i64 d) ∧ Below w0.heap.size w0 w' := fun w0 hb0 => rdepth_yes ns h1 h2 hok d hd w0 A cap ((hR.below hb0).mono hb0.size)
  obtain ⟨l, hl⟩ : ∃ l, formT ns = l := ⟨_, rfl⟩
  rw [hl] at hsc hll C
  have CH := Lib.hid C
  have CDH := Lib.hid CD
  have htH := Lib.hid ht
  have hscH := Lib.hid hsc
  clear C CD hR hc hok hsz ht hd hl hsc h1 h2
  go_enter Tryd.func4, Tryd.ntmps4
  go_wp2_with fail
  go_at_call 6
  refine (CH.out _ ((Below.refl _ _).alloc (Nat.le_refl _) _)).mono ?_
  rintro e w1 ⟨rfl, hb⟩
  have hb1 : Below w.heap.size w w1 := ((Below.refl _ _).alloc (Nat.le_refl _) (.cells #[.slice A ns.length cap] 24)).trans (hb.mono (by simp))
  have hf1 : w1.cell? ⟨w.heap.size, 0, none⟩ = some (.slice A ns.length cap) := (hb.cell (p := ⟨w.heap.size, 0, none⟩) (by show _ < (World.alloc _ _).heap.size; simp)).trans (by simp [go_sem])
  clear hb
  go_wp2_with fail
  go_loopw [5, 6, 7, 8] (fun a b c i wr => ∃ (j : Nat) (o m : Int) (q : Bool), j ≤ l.length ∧ a = .int .i64 o ∧ b = .int .i64 m ∧ c = .bool q ∧ i = .int .i64 (j : Int) ∧ Hid (scanL (some (0, 0, false)) (l.take j) = some (o, m, q)) ∧ 0 ≤ o ∧ o ≤ m ∧ m ≤ (j : Int) ∧ wr = w1) (fun _ _ _ i _ => l.length - (intOf i).toNat)
  case atStart => exact ⟨0, 0, 0, false, by omega, rfl, rfl, rfl, rfl, Lib.hid rfl, by omega, by omega, by omega, rfl⟩
  case round =>
    obtain ⟨j, o, m, q, hj, rfl, rfl, rfl, rfl, hsj, ho, hom, hmj, hbr⟩ := hrel
    subst hbr
    by_cases hlt : j < l.length
    · have hb : j < (⟨l.toArray⟩ : ByteArray).size := by show j < l.toArray.size; simpa using hlt
      have hjl : (j : Int) < (l.length : Int) := by omega
      have hj0 : (0 : Int) ≤ (j : Int) := by omega
      have hwj : IntKind.i64.wrap ((j : Int) + 1) = (j : Int) + 1 := IntWalk.i64_in _ (by omega)
      have hwo : IntKind.i64.wrap (o + 1) = o + 1 := IntWalk.i64_in _ (by omega)
      have hwp : IntKind.i64.wrap (o - 1) = o - 1 := IntWalk.i64_in _ (by omega)
      have hnn : ¬ o < 0 := by omega
      have hstep : Hid (scanL (some (0, 0, false)) (l.take (j + 1)) = scanB (some (o, m, q)) l[j]) := Lib.hid (by rw [scan_take _ _ _ hlt, hsj.out])
      have hne : scanB (some (o, m, q)) l[j] ≠ none := by
        rw [← hstep.out]
        exact scan_some _ _ _ (by rw [hscH.out]; simp)
      have hcs := scanB_cases o m q l[j] hne
      change (((⟨l.toArray⟩ : ByteArray)[j]'hb).toNat = 34 ∧ _) ∨ (((⟨l.toArray⟩ : ByteArray)[j]'hb).toNat ≠ 34 ∧ _) ∨ (_ ∧ ((⟨l.toArray⟩ : ByteArray)[j]'hb).toNat = 40 ∧ _) ∨ (_ ∧ ((⟨l.toArray⟩ : ByteArray)[j]'hb).toNat = 41 ∧ _) ∨ (_ ∧ ((⟨l.toArray⟩ : ByteArray)[j]'hb).toNat ≠ 34 ∧ ((⟨l.toArray⟩ : ByteArray)[j]'hb).toNat ≠ 32 ∧ ((⟨l.toArray⟩ : ByteArray)[j]'hb).toNat ≠ 40 ∧ ((⟨l.toArray⟩ : ByteArray)[j]'hb).toNat ≠ 41 ∧ _) at hcs
      clear hne hsj
      rcases hcs with ⟨c1, hq⟩ | ⟨c1, rfl, hq⟩ | ⟨rfl, c1, hq⟩ | ⟨rfl, c1, ho1, hq⟩ | ⟨rfl, c1, c2, c3, c4, hq⟩
      · have hqH := Lib.hid hq
        clear hq
        have g34 : (((((⟨l.toArray⟩ : ByteArray)[j]'hb).toNat : Nat) : Int) == 34) = true := by simp; omega
        have g32 : (((((⟨l.toArray⟩ : ByteArray)[j]'hb).toNat : Nat) : Int) == 32) = false := by simp; omega
        have g40 : (((((⟨l.toArray⟩ : ByteArray)[j]'hb).toNat : Nat) : Int) == 40) = false := by simp; omega
        have g41 : (((((⟨l.toArray⟩ : ByteArray)[j]'hb).toNat : Nat) : Int) == 41) = false := by simp; omega
        cases q
        · go_wp2
          go_roundw
          case rel => exact ⟨j + 1, o, m, true, by omega, rfl, rfl, rfl, by go_num, Lib.hid (by rw [hstep.out]; exact hqH.out), by omega, by omega, by omega, trivial⟩
          case measure => simp [intOf]; omega
        · go_wp2
          go_roundw
          case rel => exact ⟨j + 1, o, m, false, by omega, rfl, rfl, rfl, by go_num, Lib.hid (by rw [hstep.out]; exact hqH.out), by omega, by omega, by omega, trivial⟩
          case measure => simp [intOf]; omega
      · have hqH := Lib.hid hq
        clear hq
        have g34 : (((((⟨l.toArray⟩ : ByteArray)[j]'hb).toNat : Nat) : Int) == 34) = false := by simp; omega
        go_wp2
        go_roundw
        case rel => exact ⟨j + 1, o, m, true, by omega, rfl, rfl, rfl, by go_num, Lib.hid (by rw [hstep.out]; exact hqH.out), by omega, by omega, by omega, trivial⟩
        case measure => simp [intOf]; omega
      · have hqH := Lib.hid hq
        clear hq
        have g34 : (((((⟨l.toArray⟩ : ByteArray)[j]'hb).toNat : Nat) : Int) == 34) = false := by simp; omega
        have g32 : (((((⟨l.toArray⟩ : ByteArray)[j]'hb).toNat : Nat) : Int) == 32) = false := by simp; omega
        have g40 : (((((⟨l.toArray⟩ : ByteArray)[j]'hb).toNat : Nat) : Int) == 40) = true := by simp; omega
        have g41 : (((((⟨l.toArray⟩ : ByteArray)[j]'hb).toNat : Nat) : Int) == 41) = false := by simp; omega
        have hnn2 : ¬ o + 1 < 0 := by omega
        by_cases hgt : o + 1 > m
        · have hmx : Hid (max m (o + 1) = o + 1) := Lib.hid (by omega)
          have hgb : decide (m < o + 1) = true := by simp; omega
          go_wp2
          go_roundw
          case rel => exact ⟨j + 1, (o + 1), (o + 1), false, by omega, rfl, rfl, rfl, by go_num, Lib.hid (by rw [hstep.out]; rw [hqH.out, hmx.out]), by omega, by omega, by omega, trivial⟩
          case measure => simp [intOf]; omega
        · have hmx : Hid (max m (o + 1) = m) := Lib.hid (by omega)
          have hgb : decide (m < o + 1) = false := by simp; omega
          go_wp2
          go_roundw
          case rel => exact ⟨j + 1, (o + 1), m, false, by omega, rfl, rfl, rfl, by go_num, Lib.hid (by rw [hstep.out]; rw [hqH.out, hmx.out]), by omega, by omega, by omega, trivial⟩
          case measure => simp [intOf]; omega
      · have hqH := Lib.hid hq
        clear hq
        have g34 : (((((⟨l.toArray⟩ : ByteArray)[j]'hb).toNat : Nat) : Int) == 34) = false := by simp; omega
        have g32 : (((((⟨l.toArray⟩ : ByteArray)[j]'hb).toNat : Nat) : Int) == 32) = false := by simp; omega
        have g40 : (((((⟨l.toArray⟩ : ByteArray)[j]'hb).toNat : Nat) : Int) == 40) = false := by simp; omega
        have g41 : (((((⟨l.toArray⟩ : ByteArray)[j]'hb).toNat : Nat) : Int) == 41) = true := by simp; omega
        have hnn2 : ¬ o - 1 < 0 := by omega
        go_wp2
        go_roundw
        case rel => exact ⟨j + 1, (o - 1), m, false, by omega, rfl, rfl, rfl, by go_num, Lib.hid (by rw [hstep.out]; exact hqH.out), by omega, by omega, by omega, trivial⟩
        case measure => simp [intOf]; omega
      · have hqH := Lib.hid hq
        clear hq
        have g34 : (((((⟨l.toArray⟩ : ByteArray)[j]'hb).toNat : Nat) : Int) == 34) = false := by simp; omega
        have g32 : (((((⟨l.toArray⟩ : ByteArray)[j]'hb).toNat : Nat) : Int) == 32) = false := by simp; omega
        have g40 : (((((⟨l.toArray⟩ : ByteArray)[j]'hb).toNat : Nat) : Int) == 40) = false := by simp; omega
        have g41 : (((((⟨l.toArray⟩ : ByteArray)[j]'hb).toNat : Nat) : Int) == 41) = false := by simp; omega
        go_wp2
        go_roundw
        case rel => exact ⟨j + 1, o, m, false, by omega, rfl, rfl, rfl, by go_num, Lib.hid (by rw [hstep.out]; exact hqH.out), by omega, by omega, by omega, trivial⟩
        case measure => simp [intOf]; omega
    · obtain rfl : j = l.length := by omega
      have hnn : ¬ ((l.length : Int) < (l.length : Int)) := by omega
      have he := hsj.out
      rw [List.take_of_length_le (Nat.le_refl _), hscH.out] at he
      obtain ⟨rfl, rfl, rfl⟩ : 0 = o ∧ d = m ∧ false = q := by
        have h9 := Option.some.inj he
        injection h9 with a1 a2
        injection a2 with a3 a4
        exact ⟨a1, a3, a4⟩
      clear he hsj
      go_wp2_with fail
      go_at_call 9
      refine (CDH.out _ hb1).mono ?_
      rintro e w2 ⟨rfl, hb2⟩
      have hbr2 := hb1.trans (hb2.mono hb1.size)
      go_wp2_with fail
      go_at_call 7
      refine (plives _ (Tab.below htH.out hbr2)).mono ?_
      rintro e w3 ⟨rfl, hb3⟩
      have hbr3 := hbr2.trans (hb3.mono hbr2.size)
      go_wp2
      go_ret
      exact ⟨rfl, hbr3⟩
theorem walk_PrintShort (ns : List NL) (hlen : ns.length ≤ 1048576) (hok : ∀ n ∈ ns, n.ok) (hsz : ∀ n ∈ ns, n.v.s.size ≤ 1048576) (w : World) (ht : Tab w) (A : Option Addr) (cap : Nat) (hR : RdB w w.heap.size A 15 (ns.map NL.cs)) : Calls Tryd.prog 4 #[.agg #[.slice A ns.length cap]] w fun e w' => e = .returned (.bool true) ∧ Below w.heap.size w w' := by
  cases hc : checkP ns
  · exact pshort_no ns (by omega) hok w ht A cap hR hc
  · exact pshort_yes ns (by omega) hok hsz w ht A cap hR hc
end Go.Proofs.YtfbkoieodflcpaaDoor
