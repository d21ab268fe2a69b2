/-
  the document's nums: Call.
-/
import Derived.Test.YthobaffgllipfaaGreatRows
import Derived.Test.YthobaffgllipfaaGreatBase
import Derived.Test.YthobaffgllipfaaGreatMapK
import Derived.Test.YthobaffgllipfaaGreatNFind
import Derived.Test.YthobaffgllipfaaGreatMg3
import Derived.Test.YthobaffgllipfaaGreatValA
import Derived.Test.YthobaffgllipfaaGreatValB
import Derived.Test.YthobaffgllipfaaGreatDecS
import Derived.Test.YthobaffgllipfaaGreatValC
import Derived.Test.YthobaffgllipfaaGreatAddrC
import Derived.Test.YthobaffgllipfaaGreatMg9
import Derived.Test.YthobaffgllipfaaGreatDMod
import Derived.Test.YthobaffgllipfaaGreatDFlo
import Derived.Test.YthobaffgllipfaaGreatProg
import Derived.Test.YthobaffgllipfaaGreatMg12
import Derived.Test.YthobaffgllipfaaGreatDRnd
import Derived.Test.YthobaffgllipfaaGreatMg14
import Derived.Test.YthobaffgllipfaaGreatKnuth
import Derived.Test.YthobaffgllipfaaGreatDDiv
import Derived.Test.YthobaffgllipfaaGreatMg17
import Derived.Test.YthobaffgllipfaaGreatNDoA
import Derived.Test.YthobaffgllipfaaGreatNDoB
import Derived.Test.YthobaffgllipfaaGreatNDoC
import Derived.Test.YthobaffgllipfaaGreatMg21
import Derived.Test.YthobaffgllipfaaGreatNCall
import Derived.Test.YthobaffgllipfaaGreatValL
import Derived.Test.YthobaffgllipfaaGreatNCallK
import Derived.Test.YthobaffgllipfaaGreatNCallB
import Derived.Test.YthobaffgllipfaaGreatNDoF
import Derived.Test.YthobaffgllipfaaGreatMg27
import Derived.Test.YthobaffgllipfaaGreatNDoQ
import Derived.Test.YthobaffgllipfaaGreatNDoP
import Derived.Test.YthobaffgllipfaaGreatNDoAt2
import Derived.Test.YthobaffgllipfaaGreatDPowB
import Derived.Test.YthobaffgllipfaaGreatDPowC
import Derived.Test.YthobaffgllipfaaGreatNDoAt3
import Derived.Test.YthobaffgllipfaaGreatR8A
import Derived.Test.YthobaffgllipfaaGreatR8B
import Derived.Test.YthobaffgllipfaaGreatMg36
import Derived.Test.YthobaffgllipfaaGreatRGrD
import Derived.Test.YthobaffgllipfaaGreatMg38
import Derived.Test.YthobaffgllipfaaGreatMg39
import Derived.Test.YthobaffgllipfaaGreatRQuo
import Derived.Test.YthobaffgllipfaaGreatRPow
import Derived.Test.YthobaffgllipfaaGreatRPowJ
import Derived.Test.YthobaffgllipfaaGreatR8C
import Derived.Test.YthobaffgllipfaaGreatRArgM
import Derived.Test.YthobaffgllipfaaGreatR8D
import Derived.Test.YthobaffgllipfaaGreatNLaw
import Derived.Test.YthobaffgllipfaaGreatNKn
import Derived.Test.YthobaffgllipfaaGreatLNTak
import Derived.Maps.AppendAt
import Derived.Deep.RegionWith
import Derived.WalkSpells
import Derived.WalkLawsBesides
import Derived.StillTactics
import Derived.Laws.Pointers
import Derived.Deep.RegionHeld3
import Derived.Deep.QuietTactic
import Derived.BigQuiet
import Derived.RowKit3
import Derived.Lib.Hide
import Derived.Lib.OthersKept
import Derived.OwnWalk
import Derived.Lib.IndexLaws
import Derived.Lib.ItoaMem
import Derived.WalkKit
import Derived.ProofKit
import Derived.OpenShut
import Derived.Carry
import Derived.ChangeSame
import Derived.Deep.Draws
import Derived.Maps.OwnSet
import Derived.Laws.EntriesVeiled
import Derived.Laws.BitsAllLaws
import Derived.Shelf.Small.Bits
import Derived.Shelf.Strconv.Itoa0
import Derived.Shelf.Bits.Mul64
import Derived.Lib.TrimByte
import Derived.Lib.Bytealg
import Derived.Lib.SlTrimSet
import Derived.Lib.ParseIntB
import Derived.Shelf.Strings.SlTrimAscii
import Derived.Lib.SmallJoins
import Derived.Laws.Externs
import Derived.Laws.AppendOwnNone
namespace Go.Proofs.YthobaffgllipfaaGreat
open Go.RowKit

theorem ResAt.drewN {w : World} {R k : Nat} (h : ResAt w R k) (n : Nat) : ResAt (w.drewN n) R k := h
theorem faulL_many (l : List AL) (h : (l.any fun x => (true == x.many)) = false) : faulL l = l.find? (fun x => decide (x.v.t = 4)) := by
  unfold faulL
  induction l with
  | nil => rfl
  | cons x l ih =>
    have h2 := List.any_eq_false.1 h
    have hx := h2 x (by simp)
    have hm : x.many = false := by cases hm : x.many; rfl; rw [hm] at hx; simp at hx
    have ih2 := ih (List.any_eq_false.2 fun y hy => h2 y (by simp [hy]))
    simp only [List.find?_cons, hm, Bool.not_false, Bool.true_and, ih2]
theorem takesN_many {s : ByteArray} {n : Nat} {z : Bool} (h : takesN s n z = true) : z = false := by
  unfold takesN at h
  simp at h
  exact h.2
set_option maxRecDepth 100000 in
set_option maxHeartbeats 16000000 in
theorem r8call_any (name : ByteArray) (l : List AL) (hlen : l.length ≤ 1649267441664) (text : Int) (w : World) (A : Option Addr) (cap : Nat) (hR : RdB w w.heap.size A 11 (l.map AL.cs)) (hin : ∀ x ∈ l, x.In w w.heap.size) :
    Calls Tryz.prog 5 #[.string name, .slice A l.length cap, .int .i64 text] w fun e w' => e = .returned (.agg #[.int .i64 (callR name l (doR name (l.map fun x => x.v.asN))).t, .int .i64 (callR name l (doR name (l.map fun x => x.v.asN))).n, .string (callR name l (doR name (l.map fun x => x.v.asN))).s, .bool (callR name l (doR name (l.map fun x => x.v.asN))).b, .int .i64 (callR name l (doR name (l.map fun x => x.v.asN))).c]) ∧ Below w.heap.size w w' := by
  obtain ⟨j0, hj, hy0, hy1, hy2⟩ := info_parts i64_info
  have hR' := Lib.hid hR
  have hin' := Lib.hid hin
  clear hR hin
  have b0 : Below w.heap.size w (w.alloc (.cells #[.int .i64 0, .int .i64 0, .string ⟨#[]⟩, .bool false, .int .i64 0] 26)) := (Below.refl _ _).alloc (Nat.le_refl _) _
  go_enter Tryz.func5, Tryz.ntmps5
  go_wp2_with fail
  refine (rargs_any l hlen _ A cap ((hR'.out.below b0).mono (by simp)) (fun x hx => ((hin'.out x hx).below b0).mono (by simp))).mono ?_
  rintro e w1 ⟨u, rfl, hown, hb1⟩
  have hbw : Below (w.heap.size + 1) (w.alloc (.cells #[.int .i64 0, .int .i64 0, .string ⟨#[]⟩, .bool false, .int .i64 0] 26)) w1 := hb1.mono (by simp)
  have hz1 := hbw.size
  simp only [World.size_alloc] at hz1
  have g1 : Below w.heap.size w w1 := b0.trans (hbw.mono (by omega))
  have hres1 : ResAt w1 w.heap.size 5 := ResAt.below (ResAt.new5 w _ _ _ _ _ 26) hbw (by omega)
  have hr : ∀ j v, (w.alloc (.cells #[.int .i64 0, .int .i64 0, .string ⟨#[]⟩, .bool false, .int .i64 0] 26)).cell? ⟨w.heap.size, j, none⟩ = some v → w1.cell? ⟨w.heap.size, j, none⟩ = some v := fun j v h => (hbw.cell (p := ⟨w.heap.size, j, none⟩) (by simp)).trans h
  have hs : ∀ j, w1.frozen? ⟨w.heap.size, j, none⟩ = false := fun j => (hbw.frozen (p := ⟨w.heap.size, j, none⟩) (by simp)).trans (by simp)
  have hr0 : w1.cell? ⟨w.heap.size, 0, none⟩ = some (.int .i64 0) := hr 0 _ (by simp)
  have hs0 := hs 0
  have hr1 : w1.cell? ⟨w.heap.size, 1, none⟩ = some (.int .i64 0) := hr 1 _ (by simp)
  have hs1 := hs 1
  have hr2 : w1.cell? ⟨w.heap.size, 2, none⟩ = some (.string ⟨#[]⟩) := hr 2 _ (by simp)
  have hs2 := hs 2
  have hr3 : w1.cell? ⟨w.heap.size, 3, none⟩ = some (.bool false) := hr 3 _ (by simp)
  have hs3 := hs 3
  have hr4 : w1.cell? ⟨w.heap.size, 4, none⟩ = some (.int .i64 0) := hr 4 _ (by simp)
  have hs4 := hs 4
  clear hr hs
  obtain ⟨A2, cap2, rfl, hrd⟩ := ownsRow_rd hown
  have hrd2 : RdB w1 w1.heap.size A2 1 ((l.map fun x => x.many).map fun (x : Bool) => [Value.bool x]) := by
    have e : ((l.map fun x => Value.bool x.many).map fun x => [x]) = ((l.map fun x => x.many).map fun (x : Bool) => [Value.bool x]) := by simp
    rw [← e]; exact hrd
  have hlw : w.heap.size < w1.heap.size := by omega
  clear hrd hown
  cases hall : l.all argMay
  · have hcr := Lib.hid (show callR name l (doR name (l.map fun x => x.v.asN)) = errL 8 from by unfold callR; rw [if_pos hall])
    clear hrd2 hbw hb1
    go_wp2_with (go_at_call 14; refine (rverr_any 8 _).mono ?_; rintro e wq ⟨rfl, hb⟩; obtain ⟨hc, hf, hz⟩ := bkeep hb (w1.heap.size) (by first | omega | (simp <;> omega)))
    refine bodyPost_ret (v := .agg #[.int .i64 4, .int .i64 0, .string ⟨#[]⟩, .bool false, .int .i64 (errC 8)]) ?_ rfl ⟨by rw [hcr.out]; rfl, by (repeat (first | (with_reducible exact Below.refl _ _) | (with_reducible refine Below.alloc ?_ (by first | omega | (dsimp only; omega) | (simp <;> omega)) _) | (with_reducible refine Below.setCell ?_ (by first | omega | (dsimp only; omega) | (simp <;> omega)) _) | (with_reducible refine Below.drew ?_) | (with_reducible refine below_drewN ?_ _) | (with_reducible refine Below.trans ?_ (Below.mono (by assumption) (by first | omega | (dsimp only; omega) | (simp <;> omega))))))⟩
    simp [results, Tryz.results5, go_sem, *]
  · have hall' := Lib.hid hall
    cases ht : takesN name l.length (l.any fun x => (true == x.many))
    · have CT := rtakes_any name (l.map fun x => x.many) (by simp; omega) false (by rw [List.length_map, List.any_map]; exact ht) w1 A2 cap2 hrd2
      rw [List.length_map] at CT
      have CT' := Lib.hid CT
      have hcr := Lib.hid (show callR name l (doR name (l.map fun x => x.v.asN)) = errL 8 from by unfold callR; rw [if_neg (by rw [hall'.out]; simp), if_pos ht])
      clear CT ht hrd2 hbw hb1
      go_wp2_with fail
      refine CT'.out.mono ?_
      rintro e w' ⟨rfl, rfl⟩
      go_wp2_with (go_at_call 14; refine (rverr_any 8 _).mono ?_; rintro e wq ⟨rfl, hb⟩; obtain ⟨hc, hf, hz⟩ := bkeep hb (w1.heap.size) (by first | omega | (simp <;> omega)))
      refine bodyPost_ret (v := .agg #[.int .i64 4, .int .i64 0, .string ⟨#[]⟩, .bool false, .int .i64 (errC 8)]) ?_ rfl ⟨by rw [hcr.out]; rfl, by (repeat (first | (with_reducible exact Below.refl _ _) | (with_reducible refine Below.alloc ?_ (by first | omega | (dsimp only; omega) | (simp <;> omega)) _) | (with_reducible refine Below.setCell ?_ (by first | omega | (dsimp only; omega) | (simp <;> omega)) _) | (with_reducible refine Below.drew ?_) | (with_reducible refine below_drewN ?_ _) | (with_reducible refine Below.trans ?_ (Below.mono (by assumption) (by first | omega | (dsimp only; omega) | (simp <;> omega))))))⟩
      simp [results, Tryz.results5, go_sem, *]
    · have CT := rtakes_any name (l.map fun x => x.many) (by simp; omega) true (by rw [List.length_map, List.any_map]; exact ht) w1 A2 cap2 hrd2
      rw [List.length_map] at CT
      have CT' := Lib.hid CT
      have hcr := Lib.hid (show callR name l (doR name (l.map fun x => x.v.asN)) = callS l (doR name (l.map fun x => x.v.asN)) from by unfold callR; rw [if_neg (by rw [hall'.out]; simp), if_neg (by rw [ht]; simp)])
      have ht' := Lib.hid ht
      have hfm := faulL_many l (takesN_many ht)
      have CFa := rfaulty_any l hlen w1 A cap ((hR'.out.below g1).mono g1.size)
      clear CT ht hrd2 hb1
      cases hfl : faulL l with
      | some x =>
        have hcs := Lib.hid (show callS l (doR name (l.map fun x => x.v.asN)) = x.v from by unfold callS; rw [← hfm, hfl])
        have hfv : faulV l = x.v := by unfold faulV; rw [hfl]
        rw [hfv, hfl] at CFa
        simp only [Option.isSome_some] at CFa
        have CFa' := Lib.hid CFa
        clear CFa hfm hfv hfl hbw
        go_wp2_with fail
        refine CT'.out.mono ?_
        rintro e w' ⟨rfl, rfl⟩
        go_wp2_with fail
        refine CFa'.out.mono ?_
        rintro e w2 ⟨rfl, hb2⟩
        obtain ⟨hc, hf, hz⟩ := bkeep hb2 w1.heap.size (by simp)
        have hlw2 : w.heap.size < w2.heap.size := by omega
        have hne2 : w.heap.size ≠ w2.heap.size := by omega
        go_wp2
        refine bodyPost_ret (v := .agg #[.int .i64 x.v.t, .int .i64 x.v.n, .string x.v.s, .bool x.v.b, .int .i64 x.v.c]) ?_ rfl ⟨by rw [hcr.out, hcs.out], by (repeat (first | (with_reducible exact Below.refl _ _) | (with_reducible refine Below.alloc ?_ (by first | omega | (dsimp only; omega) | (simp <;> omega)) _) | (with_reducible refine Below.setCell ?_ (by first | omega | (dsimp only; omega) | (simp <;> omega)) _) | (with_reducible refine Below.drew ?_) | (with_reducible refine below_drewN ?_ _) | (with_reducible refine Below.trans ?_ (Below.mono (by assumption) (by first | omega | (dsimp only; omega) | (simp <;> omega))))))⟩
        simp [results, Tryz.results5, go_sem, *]
      | none =>
        have hcs := Lib.hid (show callS l (doR name (l.map fun x => x.v.asN)) = callS2 l (doR name (l.map fun x => x.v.asN)) from by unfold callS; rw [← hfm, hfl])
        have hfv : faulV l = v0 := by unfold faulV; rw [hfl]
        rw [hfv, hfl] at CFa
        simp only [Option.isSome_none] at CFa
        have CFa' := Lib.hid CFa
        clear CFa hfm hfv hfl hr0 hr1 hr2 hr3 hr4 hs0 hs1 hs2 hs3 hs4 hres1
        go_wp2_with fail
        refine CT'.out.mono ?_
        rintro e w' ⟨rfl, rfl⟩
        go_wp2_with fail
        refine CFa'.out.mono ?_
        rintro e w2 ⟨rfl, hb2⟩
        have hbw2 : Below (w.heap.size + 1) (w.alloc (.cells #[.int .i64 0, .int .i64 0, .string ⟨#[]⟩, .bool false, .int .i64 0] 26)) w2 := hbw.trans (hb2.mono (by omega))
        have hz2 := hb2.size
        clear hbw hb2 g1
        go_wp2
        go_loopw [11, 12] (fun v i wr => ∃ k : Nat, k ≤ l.length ∧ i = .int .i64 (k : Int) ∧ Hid (∀ x ∈ l.take k, x.v.asC = 0) ∧ Hid (wr.ownsRow (w.heap.size + 1) 2 1 v k ((l.take k).map fun x => Value.int .i64 x.v.asN)) ∧ Below (w.heap.size + 1) (w.alloc (.cells #[.int .i64 0, .int .i64 0, .string ⟨#[]⟩, .bool false, .int .i64 0] 26)) wr) (fun _ i _ => l.length - (intOf i).toNat)
        case atStart => exact ⟨0, Nat.zero_le _, rfl, Lib.hid (by simp), Lib.hid (World.ownsRow_nil _ _ _ _), hbw2.alloc (by first | omega | (simp; omega)) _⟩
        case round =>
          obtain ⟨k, hk, rfl, hno, hown, hbr⟩ := hrel
          have hzr := hbr.size
          simp only [World.size_alloc] at hzr
          have g0 : Below w.heap.size w wr := b0.trans (hbr.mono (by omega))
          have hr0 : wr.cell? ⟨w.heap.size, 0, none⟩ = some (.int .i64 0) := by rw [hbr.cell (by dsimp only; omega)]; simp
          have hs0 : wr.frozen? ⟨w.heap.size, 0, none⟩ = false := by rw [hbr.frozen (by dsimp only; omega)]; simp
          have hr1 : wr.cell? ⟨w.heap.size, 1, none⟩ = some (.int .i64 0) := by rw [hbr.cell (by dsimp only; omega)]; simp
          have hs1 : wr.frozen? ⟨w.heap.size, 1, none⟩ = false := by rw [hbr.frozen (by dsimp only; omega)]; simp
          have hr2 : wr.cell? ⟨w.heap.size, 2, none⟩ = some (.string ⟨#[]⟩) := by rw [hbr.cell (by dsimp only; omega)]; simp
          have hs2 : wr.frozen? ⟨w.heap.size, 2, none⟩ = false := by rw [hbr.frozen (by dsimp only; omega)]; simp
          have hr3 : wr.cell? ⟨w.heap.size, 3, none⟩ = some (.bool false) := by rw [hbr.cell (by dsimp only; omega)]; simp
          have hs3 : wr.frozen? ⟨w.heap.size, 3, none⟩ = false := by rw [hbr.frozen (by dsimp only; omega)]; simp
          have hr4 : wr.cell? ⟨w.heap.size, 4, none⟩ = some (.int .i64 0) := by rw [hbr.cell (by dsimp only; omega)]; simp
          have hs4 : wr.frozen? ⟨w.heap.size, 4, none⟩ = false := by rw [hbr.frozen (by dsimp only; omega)]; simp
          by_cases hlt : k < l.length
          · obtain ⟨x, hx⟩ : ∃ x, l[k]? = some x := ⟨_, List.getElem?_eq_getElem hlt⟩
            have hxm := List.mem_of_getElem? hx
            obtain ⟨ab, ao, hA2, hab, hcell⟩ := (hR'.out.below g0) k x.cs (by rw [List.getElem?_map, hx]; rfl)
            obtain rfl : A = some ⟨ab, ao, none⟩ := hA2
            have hc0 : wr.cell? ⟨ab, ao + k * 11, none⟩ = some (.bool x.many) := hcell 0 _ rfl
            have hc1 : wr.cell? ⟨ab, ao + k * 11 + 1, none⟩ = some (.int .i64 x.v.t) := hcell 1 _ rfl
            have hc2 : wr.cell? ⟨ab, ao + k * 11 + 2, none⟩ = some (.int .i64 x.v.n) := hcell 2 _ rfl
            have hc3 : wr.cell? ⟨ab, ao + k * 11 + 3, none⟩ = some (.string x.v.s) := hcell 3 _ rfl
            have hc4 : wr.cell? ⟨ab, ao + k * 11 + 4, none⟩ = some (.bool x.v.b) := hcell 4 _ rfl
            have hc5 : wr.cell? ⟨ab, ao + k * 11 + 5, none⟩ = some (.int .i64 x.v.c) := hcell 5 _ rfl
            have hc6 : wr.cell? ⟨ab, ao + k * 11 + 6, none⟩ = some (.int .i64 x.t) := hcell 6 _ rfl
            have hc7 : wr.cell? ⟨ab, ao + k * 11 + 7, none⟩ = some (.int .i64 x.l) := hcell 7 _ rfl
            have hc8 : wr.cell? ⟨ab, ao + k * 11 + 8, none⟩ = some (.int .i64 x.b) := hcell 8 _ rfl
            have hc9 : wr.cell? ⟨ab, ao + k * 11 + 9, none⟩ = some (.int .i64 x.r) := hcell 9 _ rfl
            have hc10 : wr.cell? ⟨ab, ao + k * 11 + 10, none⟩ = some (.slice x.A x.es.length x.cap) := hcell 10 _ rfl
            have hin : x.In wr w.heap.size := (hin'.out x hxm).below g0
            have habr : ab < wr.heap.size := by omega
            have hkl : (k : Int) < (l.length : Int) := by omega
            have hne : ab ≠ wr.heap.size := by omega
            have hne2 : w.heap.size ≠ wr.heap.size := by omega
            have hlr : w.heap.size < wr.heap.size := by omega
            have hlr2 : w.heap.size ≤ wr.heap.size := by omega
            have hlr3 : w.heap.size < wr.heap.size + 1 := by omega
            have hlr4 : ab ≤ wr.heap.size := by omega
            have hts : l.take (k + 1) = l.take k ++ [x] := by rw [List.take_add_one, hx]; rfl
            have hts' := Lib.hid hts
            have hx' := Lib.hid hx
            obtain ⟨nn, hnn⟩ : ∃ nn, x.v.asN = nn := ⟨_, rfl⟩
            obtain ⟨cc, hcc⟩ : ∃ cc, x.v.asC = cc := ⟨_, rfl⟩
            have CN0 := rasnum_any x.v hin.1
            simp only [hnn, hcc] at CN0
            have CN := Lib.hid CN0
            have hnn' := Lib.hid hnn
            have hcc' := Lib.hid hcc
            clear hx hcell hts hxm CN0 hnn hcc
            by_cases hc0 : cc = 0
            · subst hc0
              go_wp2_with fail
              refine (CN.out _).mono ?_
              rintro e w3 ⟨rfl, hb3⟩
              have hown3 := ownsRow_below hown.out hb3
              have g3 : Below (w.heap.size + 1) (w.alloc (.cells #[.int .i64 0, .int .i64 0, .string ⟨#[]⟩, .bool false, .int .i64 0] 26)) w3 := hbr.trans (hb3.mono (by omega))
              have hz3 := g3.size
              simp only [World.size_alloc] at hz3
              go_wp2_with (at_builtin; refine wpList_append_own_at _ rfl _ _ 39 rfl (w.heap.size + 1) 2 j0 (.int .i64 0) 1 8 Tryz.underlying39 hj hy0 hy1 hy2 rfl (by decide) _ _ _ rfl (hown3.alloc _) ⟨w3.heap.size, 0, none⟩ 1 1 [.int .i64 nn] rfl rfl (cell_one_new _ _ _) (by simp [Value.oneCell']) (by unfold maxLen; omega) (by omega) (by simp; omega) ?_; intro v' w4 hown4 hgrow4 hnil4 hloc4)
              go_roundw
              case rel =>
                refine ⟨k + 1, by omega, by go_num, Lib.hid (fun y hy => ?_), Lib.hid ?_, ?_⟩
                · rw [hts'.out] at hy
                  rcases List.mem_append.1 hy with h | h
                  · exact hno.out y h
                  · simp at h; subst h; exact hcc'.out
                · rw [hts'.out, List.map_append, List.map_cons, hnn'.out]; exact hown4
                · refine (g3.alloc (by omega) _).grown hgrow4 (by simp; omega) (fun j hj => ?_)
                  exact (hown3.lt j hj).1
              case measure => simp [intOf]; omega
            · have hcs2 : callS2 l (doR name (l.map fun x => x.v.asN)) = errL cc := by
                have : l.find? (fun x => decide (x.v.asC ≠ 0)) = some x := by
                  rw [List.find?_eq_some_iff_getElem]
                  exact ⟨by rw [hcc'.out]; simpa using hc0, k, hlt, (List.getElem?_eq_some_iff.1 hx'.out).2, fun j hj => by
                    simp
                    exact hno.out _ (List.mem_take_iff_getElem.2 ⟨j, by omega, rfl⟩)⟩
                unfold callS2; rw [this, ← hcc'.out]
              have hcs2' := Lib.hid hcs2
              have hcb : (cc != 0) = true := by simpa using hc0
              clear hcs2 hc0
              go_wp2_with fail
              refine (CN.out _).mono ?_
              rintro e w3 ⟨rfl, hb3⟩
              obtain ⟨hc, hf, hz⟩ := bkeep hb3 wr.heap.size (by simp)
              go_wp2_with (go_at_call 14; refine (rverr_any cc _).mono ?_; rintro e wq ⟨rfl, hb⟩; obtain ⟨hc, hf, hz⟩ := bkeep hb (wr.heap.size) (by first | omega | (simp <;> omega)))
              refine bodyPost_ret (v := .agg #[.int .i64 4, .int .i64 0, .string ⟨#[]⟩, .bool false, .int .i64 (errC cc)]) ?_ rfl ⟨by rw [hcr.out, hcs.out, hcs2'.out]; rfl, by (repeat (first | (with_reducible exact Below.refl _ _) | (with_reducible refine Below.alloc ?_ (by first | omega | (dsimp only; omega) | (simp <;> omega)) _) | (with_reducible refine Below.setCell ?_ (by first | omega | (dsimp only; omega) | (simp <;> omega)) _) | (with_reducible refine Below.drew ?_) | (with_reducible refine below_drewN ?_ _) | (with_reducible refine Below.trans ?_ (Below.mono (by assumption) (by first | omega | (dsimp only; omega) | (simp <;> omega))))))⟩
              simp [results, Tryz.results5, go_sem, *]
          · obtain rfl : k = l.length := by omega
            rw [List.take_length] at hno hown
            have hcs2 : callS2 l (doR name (l.map fun x => x.v.asN)) = doR name (l.map fun x => x.v.asN) := by
              have : l.find? (fun x => decide (x.v.asC ≠ 0)) = none := by
                rw [List.find?_eq_none]; intro x hx; simpa using hno.out x hx
              unfold callS2; rw [this]
            have hcr' := Lib.hid (show callR name l (doR name (l.map fun x => x.v.asN)) = doR name (l.map fun x => x.v.asN) from by rw [hcr.out, hcs.out, hcs2])
            have hl1 : 1 ≤ l.length := takesN_pos ht'.out
            have hLb := Lib.hid (show ∀ x ∈ l.map fun x => x.v.asN, -9223372036854775807 ≤ x ∧ x ≤ 9223372036854775807 from fun x hx => by
              obtain ⟨a, ha, rfl⟩ := List.mem_map.1 hx
              exact asN_in a.v (hin'.out a ha).1)
            have hownk := Lib.hid (show wr.ownsRow (w.heap.size + 1) 2 1 _ l.length ((l.map fun x => x.v.asN).map fun n => Value.int .i64 n) from by rw [List.map_map]; exact hown.out)
            obtain ⟨gb, gc, rfl, hgB, hgc, hcl⟩ := ownsRow_i64 hownk.out (by omega)
            have hgl : gb < wr.heap.size := (hown.out.lt gb rfl).2
            have hcl' := Lib.hid hcl
            have hres0 : ResAt wr w.heap.size 5 := ResAt.below (ResAt.new5 w _ _ _ _ _ 26) hbr (by omega)
            have hne : gb ≠ w.heap.size := by omega
            have hlr : w.heap.size < wr.heap.size := by omega
            have hlr2 : w.heap.size ≤ wr.heap.size := by omega
            have hzz : w.heap.size + 1 ≤ wr.heap.size := by omega
            clear hcs2 hno hown hcl hcr hcs hlw hz1 hz2
            rcases nKnown_cases (takesN_known ht'.out).1 with rfl | rfl | rfl | rfl | rfl | rfl | rfl | rfl | rfl | rfl | rfl | rfl | rfl | rfl | rfl | rfl
            · have hb1 : (1 : Int) ≤ (l.length : Int) := (takesN_known ht'.out).2.1
              have hb2 : (l.length : Int) ≤ 1 := (takesN_known ht'.out).2.2
              obtain ⟨x, hL⟩ := len1 (l := l.map fun x => x.v.asN) (by rw [List.length_map]; omega)
              have hn1 : l.length = 1 := by omega
              have c0 : wr.cell? ⟨gb, 0, none⟩ = some (.int .i64 x) := hcl'.out 0 x (by rw [hL]; rfl)
              have hx := hLb.out x (by rw [hL]; simp)
              have hres := Lib.hid (show callR ⟨#[79, 68, 68]⟩ l (doR ⟨#[79, 68, 68]⟩ (l.map fun x => x.v.asN)) = oddL x from by rw [hcr'.out, hL]; rfl)
              clear hL
              have hc1 : (l.length : Int) = 1 := by omega
              go_wp2_with (go_at_call 19; refine (r8one_ODD x hx _).mono ?_; rintro e wq ⟨rfl, hb⟩; obtain ⟨hc, hf, hz⟩ := bkeep hb (wr.heap.size) (by first | omega | (simp <;> omega)))
              try simp only [resAt_setCell] at *
              refine bodyPost_ret (v := .agg #[.int .i64 (oddL x).t, .int .i64 (oddL x).n, .string (oddL x).s, .bool (oddL x).b, .int .i64 (oddL x).c]) ?_ rfl ⟨by rw [hres.out], by first | assumption | (go_split_ands; first | assumption | ((repeat (first | (with_reducible exact Below.refl _ _) | (with_reducible refine Below.alloc ?_ (by first | omega | (dsimp only; omega) | (simp <;> omega)) _) | (with_reducible refine Below.setCell ?_ (by first | omega | (dsimp only; omega) | (simp <;> omega)) _) | (with_reducible refine Below.drew ?_) | (with_reducible refine below_drewN ?_ _) | (with_reducible refine Below.trans ?_ (Below.mono (by assumption) (by first | omega | (dsimp only; omega) | (simp <;> omega)))))); done)) | ((repeat (first | (with_reducible exact Below.refl _ _) | (with_reducible refine Below.alloc ?_ (by first | omega | (dsimp only; omega) | (simp <;> omega)) _) | (with_reducible refine Below.setCell ?_ (by first | omega | (dsimp only; omega) | (simp <;> omega)) _) | (with_reducible refine Below.drew ?_) | (with_reducible refine below_drewN ?_ _) | (with_reducible refine Below.trans ?_ (Below.mono (by assumption) (by first | omega | (dsimp only; omega) | (simp <;> omega)))))); done)⟩
              simp [results, Tryz.results5, go_sem, *]
            · have hb1 : (3 : Int) ≤ (l.length : Int) := (takesN_known ht'.out).2.1
              have hb2 : (l.length : Int) ≤ 3 := (takesN_known ht'.out).2.2
              obtain ⟨x, y, z, hL⟩ := len3 (l := l.map fun x => x.v.asN) (by rw [List.length_map]; omega)
              have hn3 : l.length = 3 := by omega
              have c0 : wr.cell? ⟨gb, 0, none⟩ = some (.int .i64 x) := hcl'.out 0 x (by rw [hL]; rfl)
              have hx := hLb.out x (by rw [hL]; simp)
              have c1 : wr.cell? ⟨gb, 1, none⟩ = some (.int .i64 y) := hcl'.out 1 y (by rw [hL]; rfl)
              have hy := hLb.out y (by rw [hL]; simp)
              have c2 : wr.cell? ⟨gb, 2, none⟩ = some (.int .i64 z) := hcl'.out 2 z (by rw [hL]; rfl)
              have hz := hLb.out z (by rw [hL]; simp)
              have hres := Lib.hid (show callR ⟨#[67, 76, 65, 77, 80]⟩ l (doR ⟨#[67, 76, 65, 77, 80]⟩ (l.map fun x => x.v.asN)) = clampL x y z from by rw [hcr'.out, hL]; rfl)
              clear hL
              have i1 : (1 : Int) < (l.length : Int) := by omega
              have i2 : (2 : Int) < (l.length : Int) := by omega
              have i0 : (0 : Int) < (l.length : Int) := by omega
              have n0 : 0 < l.length := by omega
              clear hn3
              go_wp2
              go_quiet (fail)
              by_cases hlt : z < y
              · have hr2 := Lib.hid (show clampL x y z = errL 8 from by unfold clampL; rw [if_pos hlt])
                go_wp2_with (go_at_call 14; refine (rverr_any 8 _).mono ?_; rintro e wq ⟨rfl, hb⟩; obtain ⟨hc, hf, hz⟩ := bkeep hb (wr.heap.size) (by first | omega | (simp <;> omega)))
                try simp only [resAt_setCell] at *
                refine bodyPost_ret (v := .agg #[.int .i64 4, .int .i64 0, .string ⟨#[]⟩, .bool false, .int .i64 (errC 8)]) ?_ rfl ⟨by rw [hres.out, hr2.out]; rfl, by first | assumption | (go_split_ands; first | assumption | ((repeat (first | (with_reducible exact Below.refl _ _) | (with_reducible refine Below.alloc ?_ (by first | omega | (dsimp only; omega) | (simp <;> omega)) _) | (with_reducible refine Below.setCell ?_ (by first | omega | (dsimp only; omega) | (simp <;> omega)) _) | (with_reducible refine Below.drew ?_) | (with_reducible refine below_drewN ?_ _) | (with_reducible refine Below.trans ?_ (Below.mono (by assumption) (by first | omega | (dsimp only; omega) | (simp <;> omega)))))); done)) | ((repeat (first | (with_reducible exact Below.refl _ _) | (with_reducible refine Below.alloc ?_ (by first | omega | (dsimp only; omega) | (simp <;> omega)) _) | (with_reducible refine Below.setCell ?_ (by first | omega | (dsimp only; omega) | (simp <;> omega)) _) | (with_reducible refine Below.drew ?_) | (with_reducible refine below_drewN ?_ _) | (with_reducible refine Below.trans ?_ (Below.mono (by assumption) (by first | omega | (dsimp only; omega) | (simp <;> omega)))))); done)⟩
                simp [results, Tryz.results5, go_sem, *]
              · have hm : max y (min x z) = min (max x y) z := by omega
                have hm' := Lib.hid hm
                have hr2 := Lib.hid (show clampL x y z = numL (max y (min x z)) from by unfold clampL; rw [if_neg hlt, hm'.out])
                clear hm
                go_wp2
                first | (go_loud (go_region_held3 (fun w' => w'.cell? ⟨gb, 0, none⟩ = some (.int .i64 x) ∧ w'.cell? ⟨gb, 1, none⟩ = some (.int .i64 y) ∧ w'.cell? ⟨gb, 2, none⟩ = some (.int .i64 z) ∧ ResAt w' (w.heap.size) 5 ∧ Below w.heap.size w w' ∧ wr.heap.size ≤ w'.heap.size)
                  (first | (go_split_ands; exact ⟨(by simp [go_sem, *]), (by simp [go_sem, *]), (by simp [go_sem, *]), (by first | (with_reducible exact ResAt.drew (ResAt.new5 _ _ _ _ _ _ _)) | (repeat (first | (with_reducible assumption) | (with_reducible refine ResAt.setCell ?_ _ _) | (with_reducible refine ResAt.drew ?_) | (with_reducible refine ResAt.drewN ?_ _)))), (by (repeat (first | (with_reducible exact Below.refl _ _) | (with_reducible refine Below.alloc ?_ (by first | omega | (dsimp only; omega) | (simp <;> omega)) _) | (with_reducible refine Below.setCell ?_ (by first | omega | (dsimp only; omega) | (simp <;> omega)) _) | (with_reducible refine Below.drew ?_) | (with_reducible refine below_drewN ?_ _) | (with_reducible refine Below.trans ?_ (Below.mono (by assumption) (by first | omega | (dsimp only; omega) | (simp <;> omega))))))), (by first | (simp; done) | (simp; omega))⟩) | (exact ⟨(by simp [go_sem, *]), (by simp [go_sem, *]), (by simp [go_sem, *]), (by first | (with_reducible exact ResAt.drew (ResAt.new5 _ _ _ _ _ _ _)) | (repeat (first | (with_reducible assumption) | (with_reducible refine ResAt.setCell ?_ _ _) | (with_reducible refine ResAt.drew ?_) | (with_reducible refine ResAt.drewN ?_ _)))), (by (repeat (first | (with_reducible exact Below.refl _ _) | (with_reducible refine Below.alloc ?_ (by first | omega | (dsimp only; omega) | (simp <;> omega)) _) | (with_reducible refine Below.setCell ?_ (by first | omega | (dsimp only; omega) | (simp <;> omega)) _) | (with_reducible refine Below.drew ?_) | (with_reducible refine below_drewN ?_ _) | (with_reducible refine Below.trans ?_ (Below.mono (by assumption) (by first | omega | (dsimp only; omega) | (simp <;> omega))))))), (by first | (simp; done) | (simp; omega))⟩) | (go_split_ands; exact ⟨(by rw [hb.cell (by dsimp only; omega)]; assumption), (by rw [hb.cell (by dsimp only; omega)]; assumption), (by rw [hb.cell (by dsimp only; omega)]; assumption), (ResAt.below (by assumption) hb (by omega)), (Below.trans (by assumption) (hb.mono (by omega))), (by have := hb.size; omega)⟩))
                  (first | (go_at_call 18; refine (rvnum_any (max y (min x z)) (by omega) _).mono ?_; rintro e w1 ⟨rfl, hb⟩)))) | fail "region"
                go_split_ands
                go_wp2
                try simp only [resAt_setCell] at *
                refine bodyPost_ret (v := .agg #[.int .i64 (numT (max y (min x z))), .int .i64 (numN (max y (min x z))), .string ⟨#[]⟩, .bool false, .int .i64 (numF (max y (min x z)))]) ?_ rfl ⟨by rw [hres.out, hr2.out]; rfl, by first | assumption | (go_split_ands; first | assumption | ((repeat (first | (with_reducible exact Below.refl _ _) | (with_reducible refine Below.alloc ?_ (by first | omega | (dsimp only; omega) | (simp <;> omega)) _) | (with_reducible refine Below.setCell ?_ (by first | omega | (dsimp only; omega) | (simp <;> omega)) _) | (with_reducible refine Below.drew ?_) | (with_reducible refine below_drewN ?_ _) | (with_reducible refine Below.trans ?_ (Below.mono (by assumption) (by first | omega | (dsimp only; omega) | (simp <;> omega)))))); done)) | ((repeat (first | (with_reducible exact Below.refl _ _) | (with_reducible refine Below.alloc ?_ (by first | omega | (dsimp only; omega) | (simp <;> omega)) _) | (with_reducible refine Below.setCell ?_ (by first | omega | (dsimp only; omega) | (simp <;> omega)) _) | (with_reducible refine Below.drew ?_) | (with_reducible refine below_drewN ?_ _) | (with_reducible refine Below.trans ?_ (Below.mono (by assumption) (by first | omega | (dsimp only; omega) | (simp <;> omega)))))); done)⟩
                simp [results, Tryz.results5, go_sem, *]
            · have hb1 : (1 : Int) ≤ (l.length : Int) := (takesN_known ht'.out).2.1
              have hb2 : (l.length : Int) ≤ 1 := (takesN_known ht'.out).2.2
              obtain ⟨x, hL⟩ := len1 (l := l.map fun x => x.v.asN) (by rw [List.length_map]; omega)
              have hn1 : l.length = 1 := by omega
              have c0 : wr.cell? ⟨gb, 0, none⟩ = some (.int .i64 x) := hcl'.out 0 x (by rw [hL]; rfl)
              have hx := hLb.out x (by rw [hL]; simp)
              have hres := Lib.hid (show callR ⟨#[70, 65, 67, 84]⟩ l (doR ⟨#[70, 65, 67, 84]⟩ (l.map fun x => x.v.asN)) = factL x from by rw [hcr'.out, hL]; rfl)
              clear hL
              have hc1 : (l.length : Int) = 1 := by omega
              go_wp2_with (go_at_call 19; refine (r8one_FACT x hx _).mono ?_; rintro e wq ⟨rfl, hb⟩; obtain ⟨hc, hf, hz⟩ := bkeep hb (wr.heap.size) (by first | omega | (simp <;> omega)))
              try simp only [resAt_setCell] at *
              refine bodyPost_ret (v := .agg #[.int .i64 (factL x).t, .int .i64 (factL x).n, .string (factL x).s, .bool (factL x).b, .int .i64 (factL x).c]) ?_ rfl ⟨by rw [hres.out], by first | assumption | (go_split_ands; first | assumption | ((repeat (first | (with_reducible exact Below.refl _ _) | (with_reducible refine Below.alloc ?_ (by first | omega | (dsimp only; omega) | (simp <;> omega)) _) | (with_reducible refine Below.setCell ?_ (by first | omega | (dsimp only; omega) | (simp <;> omega)) _) | (with_reducible refine Below.drew ?_) | (with_reducible refine below_drewN ?_ _) | (with_reducible refine Below.trans ?_ (Below.mono (by assumption) (by first | omega | (dsimp only; omega) | (simp <;> omega)))))); done)) | ((repeat (first | (with_reducible exact Below.refl _ _) | (with_reducible refine Below.alloc ?_ (by first | omega | (dsimp only; omega) | (simp <;> omega)) _) | (with_reducible refine Below.setCell ?_ (by first | omega | (dsimp only; omega) | (simp <;> omega)) _) | (with_reducible refine Below.drew ?_) | (with_reducible refine below_drewN ?_ _) | (with_reducible refine Below.trans ?_ (Below.mono (by assumption) (by first | omega | (dsimp only; omega) | (simp <;> omega)))))); done)⟩
              simp [results, Tryz.results5, go_sem, *]
            · have hb1 : (1 : Int) ≤ (l.length : Int) := (takesN_known ht'.out).2.1
              have hb2 : (l.length : Int) ≤ 16 := (takesN_known ht'.out).2.2
              have CG := r8many_LCM (l.map fun x => x.v.asN) hLb.out (by rw [List.length_map]; omega) wr gb gc hgl (by rw [List.length_map]; exact hgc) hcl'.out
              rw [List.length_map] at CG
              have CG' := Lib.hid CG
              clear CG
              go_wp2_with fail
              refine CG'.out.mono ?_
              rintro e wd ⟨rfl, hbd⟩
              obtain ⟨hc, hf, hz⟩ := bkeep hbd wr.heap.size (by simp)
              go_wp2
              try simp only [resAt_setCell] at *
              refine bodyPost_ret (v := .agg #[.int .i64 (lcmL (l.map fun x => x.v.asN)).t, .int .i64 (lcmL (l.map fun x => x.v.asN)).n, .string (lcmL (l.map fun x => x.v.asN)).s, .bool (lcmL (l.map fun x => x.v.asN)).b, .int .i64 (lcmL (l.map fun x => x.v.asN)).c]) ?_ rfl ⟨by rw [hcr'.out]; rfl, by first | assumption | (go_split_ands; first | assumption | ((repeat (first | (with_reducible exact Below.refl _ _) | (with_reducible refine Below.alloc ?_ (by first | omega | (dsimp only; omega) | (simp <;> omega)) _) | (with_reducible refine Below.setCell ?_ (by first | omega | (dsimp only; omega) | (simp <;> omega)) _) | (with_reducible refine Below.drew ?_) | (with_reducible refine below_drewN ?_ _) | (with_reducible refine Below.trans ?_ (Below.mono (by assumption) (by first | omega | (dsimp only; omega) | (simp <;> omega)))))); done)) | ((repeat (first | (with_reducible exact Below.refl _ _) | (with_reducible refine Below.alloc ?_ (by first | omega | (dsimp only; omega) | (simp <;> omega)) _) | (with_reducible refine Below.setCell ?_ (by first | omega | (dsimp only; omega) | (simp <;> omega)) _) | (with_reducible refine Below.drew ?_) | (with_reducible refine below_drewN ?_ _) | (with_reducible refine Below.trans ?_ (Below.mono (by assumption) (by first | omega | (dsimp only; omega) | (simp <;> omega)))))); done)⟩
              simp [results, Tryz.results5, go_sem, *]
            · have hb1 : (1 : Int) ≤ (l.length : Int) := (takesN_known ht'.out).2.1
              have hb2 : (l.length : Int) ≤ 16 := (takesN_known ht'.out).2.2
              have CG := r8many_GCD (l.map fun x => x.v.asN) hLb.out (by rw [List.length_map]; omega) wr gb gc hgl (by rw [List.length_map]; exact hgc) hcl'.out
              rw [List.length_map] at CG
              have CG' := Lib.hid CG
              clear CG
              go_wp2_with fail
              refine CG'.out.mono ?_
              rintro e wd ⟨rfl, hbd⟩
              obtain ⟨hc, hf, hz⟩ := bkeep hbd wr.heap.size (by simp)
              go_wp2
              try simp only [resAt_setCell] at *
              refine bodyPost_ret (v := .agg #[.int .i64 (gcdL (l.map fun x => x.v.asN)).t, .int .i64 (gcdL (l.map fun x => x.v.asN)).n, .string (gcdL (l.map fun x => x.v.asN)).s, .bool (gcdL (l.map fun x => x.v.asN)).b, .int .i64 (gcdL (l.map fun x => x.v.asN)).c]) ?_ rfl ⟨by rw [hcr'.out]; rfl, by first | assumption | (go_split_ands; first | assumption | ((repeat (first | (with_reducible exact Below.refl _ _) | (with_reducible refine Below.alloc ?_ (by first | omega | (dsimp only; omega) | (simp <;> omega)) _) | (with_reducible refine Below.setCell ?_ (by first | omega | (dsimp only; omega) | (simp <;> omega)) _) | (with_reducible refine Below.drew ?_) | (with_reducible refine below_drewN ?_ _) | (with_reducible refine Below.trans ?_ (Below.mono (by assumption) (by first | omega | (dsimp only; omega) | (simp <;> omega)))))); done)) | ((repeat (first | (with_reducible exact Below.refl _ _) | (with_reducible refine Below.alloc ?_ (by first | omega | (dsimp only; omega) | (simp <;> omega)) _) | (with_reducible refine Below.setCell ?_ (by first | omega | (dsimp only; omega) | (simp <;> omega)) _) | (with_reducible refine Below.drew ?_) | (with_reducible refine below_drewN ?_ _) | (with_reducible refine Below.trans ?_ (Below.mono (by assumption) (by first | omega | (dsimp only; omega) | (simp <;> omega)))))); done)⟩
              simp [results, Tryz.results5, go_sem, *]
            · have hb1 : (1 : Int) ≤ (l.length : Int) := (takesN_known ht'.out).2.1
              have hb2 : (l.length : Int) ≤ 1 := (takesN_known ht'.out).2.2
              obtain ⟨x, hL⟩ := len1 (l := l.map fun x => x.v.asN) (by rw [List.length_map]; omega)
              have hn1 : l.length = 1 := by omega
              have c0 : wr.cell? ⟨gb, 0, none⟩ = some (.int .i64 x) := hcl'.out 0 x (by rw [hL]; rfl)
              have hx := hLb.out x (by rw [hL]; simp)
              have hres := Lib.hid (show callR ⟨#[83, 81, 82, 84]⟩ l (doR ⟨#[83, 81, 82, 84]⟩ (l.map fun x => x.v.asN)) = toldL (sqrtV x) (sqrtC x) from by rw [hcr'.out, hL]; rfl)
              clear hL
              have hc1 : (l.length : Int) = 1 := by omega
              go_wp2_with (go_at_call 19; refine (r8one_SQRT x hx _).mono ?_; rintro e wq ⟨rfl, hb⟩; obtain ⟨hc, hf, hz⟩ := bkeep hb (wr.heap.size) (by first | omega | (simp <;> omega)))
              try simp only [resAt_setCell] at *
              refine bodyPost_ret (v := .agg #[.int .i64 (toldL (sqrtV x) (sqrtC x)).t, .int .i64 (toldL (sqrtV x) (sqrtC x)).n, .string (toldL (sqrtV x) (sqrtC x)).s, .bool (toldL (sqrtV x) (sqrtC x)).b, .int .i64 (toldL (sqrtV x) (sqrtC x)).c]) ?_ rfl ⟨by rw [hres.out], by first | assumption | (go_split_ands; first | assumption | ((repeat (first | (with_reducible exact Below.refl _ _) | (with_reducible refine Below.alloc ?_ (by first | omega | (dsimp only; omega) | (simp <;> omega)) _) | (with_reducible refine Below.setCell ?_ (by first | omega | (dsimp only; omega) | (simp <;> omega)) _) | (with_reducible refine Below.drew ?_) | (with_reducible refine below_drewN ?_ _) | (with_reducible refine Below.trans ?_ (Below.mono (by assumption) (by first | omega | (dsimp only; omega) | (simp <;> omega)))))); done)) | ((repeat (first | (with_reducible exact Below.refl _ _) | (with_reducible refine Below.alloc ?_ (by first | omega | (dsimp only; omega) | (simp <;> omega)) _) | (with_reducible refine Below.setCell ?_ (by first | omega | (dsimp only; omega) | (simp <;> omega)) _) | (with_reducible refine Below.drew ?_) | (with_reducible refine below_drewN ?_ _) | (with_reducible refine Below.trans ?_ (Below.mono (by assumption) (by first | omega | (dsimp only; omega) | (simp <;> omega)))))); done)⟩
              simp [results, Tryz.results5, go_sem, *]
            · have hb1 : (2 : Int) ≤ (l.length : Int) := (takesN_known ht'.out).2.1
              have hb2 : (l.length : Int) ≤ 2 := (takesN_known ht'.out).2.2
              obtain ⟨x, y, hL⟩ := len2 (l := l.map fun x => x.v.asN) (by rw [List.length_map]; omega)
              have hn2 : l.length = 2 := by omega
              have c0 : wr.cell? ⟨gb, 0, none⟩ = some (.int .i64 x) := hcl'.out 0 x (by rw [hL]; rfl)
              have hx := hLb.out x (by rw [hL]; simp)
              have c1 : wr.cell? ⟨gb, 1, none⟩ = some (.int .i64 y) := hcl'.out 1 y (by rw [hL]; rfl)
              have hy := hLb.out y (by rw [hL]; simp)
              have hres := Lib.hid (show callR ⟨#[80, 79, 87, 69, 82]⟩ l (doR ⟨#[80, 79, 87, 69, 82]⟩ (l.map fun x => x.v.asN)) = if wholeB y = true then toldL (powerV x (wholeV y)) (powerC x (wholeV y)) else errL 8 from by rw [hcr'.out, hL]; rfl)
              clear hL
              have i1 : (1 : Int) < (l.length : Int) := by omega
              have i0 : (0 : Int) < (l.length : Int) := by omega
              have n0 : 0 < l.length := by omega
              have C2 := fun w2 : World => r8two_POWER x hx y hy w2
              obtain ⟨r, hr⟩ : ∃ r : VL, (if wholeB y = true then toldL (powerV x (wholeV y)) (powerC x (wholeV y)) else errL 8) = r := ⟨_, rfl⟩
              rw [hr] at C2 hres
              have C2' := Lib.hid C2
              clear C2 hr
              go_wp2
              first | (go_loud (go_region_held3 (fun w' => w'.cell? ⟨gb, 0, none⟩ = some (.int .i64 x) ∧ w'.cell? ⟨gb, 1, none⟩ = some (.int .i64 y) ∧ ResAt w' (w.heap.size) 5 ∧ Below w.heap.size w w' ∧ wr.heap.size ≤ w'.heap.size)
                (first | (go_split_ands; exact ⟨(by simp [go_sem, *]), (by simp [go_sem, *]), (by first | (with_reducible exact ResAt.drew (ResAt.new5 _ _ _ _ _ _ _)) | (repeat (first | (with_reducible assumption) | (with_reducible refine ResAt.setCell ?_ _ _) | (with_reducible refine ResAt.drew ?_) | (with_reducible refine ResAt.drewN ?_ _)))), (by (repeat (first | (with_reducible exact Below.refl _ _) | (with_reducible refine Below.alloc ?_ (by first | omega | (dsimp only; omega) | (simp <;> omega)) _) | (with_reducible refine Below.setCell ?_ (by first | omega | (dsimp only; omega) | (simp <;> omega)) _) | (with_reducible refine Below.drew ?_) | (with_reducible refine below_drewN ?_ _) | (with_reducible refine Below.trans ?_ (Below.mono (by assumption) (by first | omega | (dsimp only; omega) | (simp <;> omega))))))), (by first | (simp; done) | (simp; omega))⟩) | (exact ⟨(by simp [go_sem, *]), (by simp [go_sem, *]), (by first | (with_reducible exact ResAt.drew (ResAt.new5 _ _ _ _ _ _ _)) | (repeat (first | (with_reducible assumption) | (with_reducible refine ResAt.setCell ?_ _ _) | (with_reducible refine ResAt.drew ?_) | (with_reducible refine ResAt.drewN ?_ _)))), (by (repeat (first | (with_reducible exact Below.refl _ _) | (with_reducible refine Below.alloc ?_ (by first | omega | (dsimp only; omega) | (simp <;> omega)) _) | (with_reducible refine Below.setCell ?_ (by first | omega | (dsimp only; omega) | (simp <;> omega)) _) | (with_reducible refine Below.drew ?_) | (with_reducible refine below_drewN ?_ _) | (with_reducible refine Below.trans ?_ (Below.mono (by assumption) (by first | omega | (dsimp only; omega) | (simp <;> omega))))))), (by first | (simp; done) | (simp; omega))⟩) | (go_split_ands; exact ⟨(by rw [hb.cell (by dsimp only; omega)]; assumption), (by rw [hb.cell (by dsimp only; omega)]; assumption), (ResAt.below (by assumption) hb (by omega)), (Below.trans (by assumption) (hb.mono (by omega))), (by have := hb.size; omega)⟩))
                (first | (go_at_call 20; refine (C2'.out _).mono ?_; rintro e w1 ⟨rfl, hb⟩)))) | fail "region"
              go_split_ands
              go_wp2
              try simp only [resAt_setCell] at *
              refine bodyPost_ret (v := .agg #[.int .i64 r.t, .int .i64 r.n, .string r.s, .bool r.b, .int .i64 r.c]) ?_ rfl ⟨by rw [hres.out], by first | assumption | (go_split_ands; first | assumption | ((repeat (first | (with_reducible exact Below.refl _ _) | (with_reducible refine Below.alloc ?_ (by first | omega | (dsimp only; omega) | (simp <;> omega)) _) | (with_reducible refine Below.setCell ?_ (by first | omega | (dsimp only; omega) | (simp <;> omega)) _) | (with_reducible refine Below.drew ?_) | (with_reducible refine below_drewN ?_ _) | (with_reducible refine Below.trans ?_ (Below.mono (by assumption) (by first | omega | (dsimp only; omega) | (simp <;> omega)))))); done)) | ((repeat (first | (with_reducible exact Below.refl _ _) | (with_reducible refine Below.alloc ?_ (by first | omega | (dsimp only; omega) | (simp <;> omega)) _) | (with_reducible refine Below.setCell ?_ (by first | omega | (dsimp only; omega) | (simp <;> omega)) _) | (with_reducible refine Below.drew ?_) | (with_reducible refine below_drewN ?_ _) | (with_reducible refine Below.trans ?_ (Below.mono (by assumption) (by first | omega | (dsimp only; omega) | (simp <;> omega)))))); done)⟩
              simp [results, Tryz.results5, go_sem, *]
            · have hb1 : (2 : Int) ≤ (l.length : Int) := (takesN_known ht'.out).2.1
              have hb2 : (l.length : Int) ≤ 2 := (takesN_known ht'.out).2.2
              obtain ⟨x, y, hL⟩ := len2 (l := l.map fun x => x.v.asN) (by rw [List.length_map]; omega)
              have hn2 : l.length = 2 := by omega
              have c0 : wr.cell? ⟨gb, 0, none⟩ = some (.int .i64 x) := hcl'.out 0 x (by rw [hL]; rfl)
              have hx := hLb.out x (by rw [hL]; simp)
              have c1 : wr.cell? ⟨gb, 1, none⟩ = some (.int .i64 y) := hcl'.out 1 y (by rw [hL]; rfl)
              have hy := hLb.out y (by rw [hL]; simp)
              have hres := Lib.hid (show callR ⟨#[81, 85, 79, 84]⟩ l (doR ⟨#[81, 85, 79, 84]⟩ (l.map fun x => x.v.asN)) = quotL x y from by rw [hcr'.out, hL]; rfl)
              clear hL
              have i1 : (1 : Int) < (l.length : Int) := by omega
              have i0 : (0 : Int) < (l.length : Int) := by omega
              have n0 : 0 < l.length := by omega
              have C2 := fun w2 : World => r8two_QUOT x hx y hy w2
              obtain ⟨r, hr⟩ : ∃ r : VL, (quotL x y) = r := ⟨_, rfl⟩
              rw [hr] at C2 hres
              have C2' := Lib.hid C2
              clear C2 hr
              go_wp2
              first | (go_loud (go_region_held3 (fun w' => w'.cell? ⟨gb, 0, none⟩ = some (.int .i64 x) ∧ w'.cell? ⟨gb, 1, none⟩ = some (.int .i64 y) ∧ ResAt w' (w.heap.size) 5 ∧ Below w.heap.size w w' ∧ wr.heap.size ≤ w'.heap.size)
                (first | (go_split_ands; exact ⟨(by simp [go_sem, *]), (by simp [go_sem, *]), (by first | (with_reducible exact ResAt.drew (ResAt.new5 _ _ _ _ _ _ _)) | (repeat (first | (with_reducible assumption) | (with_reducible refine ResAt.setCell ?_ _ _) | (with_reducible refine ResAt.drew ?_) | (with_reducible refine ResAt.drewN ?_ _)))), (by (repeat (first | (with_reducible exact Below.refl _ _) | (with_reducible refine Below.alloc ?_ (by first | omega | (dsimp only; omega) | (simp <;> omega)) _) | (with_reducible refine Below.setCell ?_ (by first | omega | (dsimp only; omega) | (simp <;> omega)) _) | (with_reducible refine Below.drew ?_) | (with_reducible refine below_drewN ?_ _) | (with_reducible refine Below.trans ?_ (Below.mono (by assumption) (by first | omega | (dsimp only; omega) | (simp <;> omega))))))), (by first | (simp; done) | (simp; omega))⟩) | (exact ⟨(by simp [go_sem, *]), (by simp [go_sem, *]), (by first | (with_reducible exact ResAt.drew (ResAt.new5 _ _ _ _ _ _ _)) | (repeat (first | (with_reducible assumption) | (with_reducible refine ResAt.setCell ?_ _ _) | (with_reducible refine ResAt.drew ?_) | (with_reducible refine ResAt.drewN ?_ _)))), (by (repeat (first | (with_reducible exact Below.refl _ _) | (with_reducible refine Below.alloc ?_ (by first | omega | (dsimp only; omega) | (simp <;> omega)) _) | (with_reducible refine Below.setCell ?_ (by first | omega | (dsimp only; omega) | (simp <;> omega)) _) | (with_reducible refine Below.drew ?_) | (with_reducible refine below_drewN ?_ _) | (with_reducible refine Below.trans ?_ (Below.mono (by assumption) (by first | omega | (dsimp only; omega) | (simp <;> omega))))))), (by first | (simp; done) | (simp; omega))⟩) | (go_split_ands; exact ⟨(by rw [hb.cell (by dsimp only; omega)]; assumption), (by rw [hb.cell (by dsimp only; omega)]; assumption), (ResAt.below (by assumption) hb (by omega)), (Below.trans (by assumption) (hb.mono (by omega))), (by have := hb.size; omega)⟩))
                (first | (go_at_call 20; refine (C2'.out _).mono ?_; rintro e w1 ⟨rfl, hb⟩)))) | fail "region"
              go_split_ands
              go_wp2
              try simp only [resAt_setCell] at *
              refine bodyPost_ret (v := .agg #[.int .i64 r.t, .int .i64 r.n, .string r.s, .bool r.b, .int .i64 r.c]) ?_ rfl ⟨by rw [hres.out], by first | assumption | (go_split_ands; first | assumption | ((repeat (first | (with_reducible exact Below.refl _ _) | (with_reducible refine Below.alloc ?_ (by first | omega | (dsimp only; omega) | (simp <;> omega)) _) | (with_reducible refine Below.setCell ?_ (by first | omega | (dsimp only; omega) | (simp <;> omega)) _) | (with_reducible refine Below.drew ?_) | (with_reducible refine below_drewN ?_ _) | (with_reducible refine Below.trans ?_ (Below.mono (by assumption) (by first | omega | (dsimp only; omega) | (simp <;> omega)))))); done)) | ((repeat (first | (with_reducible exact Below.refl _ _) | (with_reducible refine Below.alloc ?_ (by first | omega | (dsimp only; omega) | (simp <;> omega)) _) | (with_reducible refine Below.setCell ?_ (by first | omega | (dsimp only; omega) | (simp <;> omega)) _) | (with_reducible refine Below.drew ?_) | (with_reducible refine below_drewN ?_ _) | (with_reducible refine Below.trans ?_ (Below.mono (by assumption) (by first | omega | (dsimp only; omega) | (simp <;> omega)))))); done)⟩
              simp [results, Tryz.results5, go_sem, *]
            · have hb1 : (2 : Int) ≤ (l.length : Int) := (takesN_known ht'.out).2.1
              have hb2 : (l.length : Int) ≤ 2 := (takesN_known ht'.out).2.2
              obtain ⟨x, y, hL⟩ := len2 (l := l.map fun x => x.v.asN) (by rw [List.length_map]; omega)
              have hn2 : l.length = 2 := by omega
              have c0 : wr.cell? ⟨gb, 0, none⟩ = some (.int .i64 x) := hcl'.out 0 x (by rw [hL]; rfl)
              have hx := hLb.out x (by rw [hL]; simp)
              have c1 : wr.cell? ⟨gb, 1, none⟩ = some (.int .i64 y) := hcl'.out 1 y (by rw [hL]; rfl)
              have hy := hLb.out y (by rw [hL]; simp)
              have hres := Lib.hid (show callR ⟨#[77, 79, 68]⟩ l (doR ⟨#[77, 79, 68]⟩ (l.map fun x => x.v.asN)) = toldL (modV x y) (modC x y) from by rw [hcr'.out, hL]; rfl)
              clear hL
              have i1 : (1 : Int) < (l.length : Int) := by omega
              have i0 : (0 : Int) < (l.length : Int) := by omega
              have n0 : 0 < l.length := by omega
              have C2 := fun w2 : World => r8two_MOD x hx y hy w2
              obtain ⟨r, hr⟩ : ∃ r : VL, (toldL (modV x y) (modC x y)) = r := ⟨_, rfl⟩
              rw [hr] at C2 hres
              have C2' := Lib.hid C2
              clear C2 hr
              go_wp2
              first | (go_loud (go_region_held3 (fun w' => w'.cell? ⟨gb, 0, none⟩ = some (.int .i64 x) ∧ w'.cell? ⟨gb, 1, none⟩ = some (.int .i64 y) ∧ ResAt w' (w.heap.size) 5 ∧ Below w.heap.size w w' ∧ wr.heap.size ≤ w'.heap.size)
                (first | (go_split_ands; exact ⟨(by simp [go_sem, *]), (by simp [go_sem, *]), (by first | (with_reducible exact ResAt.drew (ResAt.new5 _ _ _ _ _ _ _)) | (repeat (first | (with_reducible assumption) | (with_reducible refine ResAt.setCell ?_ _ _) | (with_reducible refine ResAt.drew ?_) | (with_reducible refine ResAt.drewN ?_ _)))), (by (repeat (first | (with_reducible exact Below.refl _ _) | (with_reducible refine Below.alloc ?_ (by first | omega | (dsimp only; omega) | (simp <;> omega)) _) | (with_reducible refine Below.setCell ?_ (by first | omega | (dsimp only; omega) | (simp <;> omega)) _) | (with_reducible refine Below.drew ?_) | (with_reducible refine below_drewN ?_ _) | (with_reducible refine Below.trans ?_ (Below.mono (by assumption) (by first | omega | (dsimp only; omega) | (simp <;> omega))))))), (by first | (simp; done) | (simp; omega))⟩) | (exact ⟨(by simp [go_sem, *]), (by simp [go_sem, *]), (by first | (with_reducible exact ResAt.drew (ResAt.new5 _ _ _ _ _ _ _)) | (repeat (first | (with_reducible assumption) | (with_reducible refine ResAt.setCell ?_ _ _) | (with_reducible refine ResAt.drew ?_) | (with_reducible refine ResAt.drewN ?_ _)))), (by (repeat (first | (with_reducible exact Below.refl _ _) | (with_reducible refine Below.alloc ?_ (by first | omega | (dsimp only; omega) | (simp <;> omega)) _) | (with_reducible refine Below.setCell ?_ (by first | omega | (dsimp only; omega) | (simp <;> omega)) _) | (with_reducible refine Below.drew ?_) | (with_reducible refine below_drewN ?_ _) | (with_reducible refine Below.trans ?_ (Below.mono (by assumption) (by first | omega | (dsimp only; omega) | (simp <;> omega))))))), (by first | (simp; done) | (simp; omega))⟩) | (go_split_ands; exact ⟨(by rw [hb.cell (by dsimp only; omega)]; assumption), (by rw [hb.cell (by dsimp only; omega)]; assumption), (ResAt.below (by assumption) hb (by omega)), (Below.trans (by assumption) (hb.mono (by omega))), (by have := hb.size; omega)⟩))
                (first | (go_at_call 20; refine (C2'.out _).mono ?_; rintro e w1 ⟨rfl, hb⟩)))) | fail "region"
              go_split_ands
              go_wp2
              try simp only [resAt_setCell] at *
              refine bodyPost_ret (v := .agg #[.int .i64 r.t, .int .i64 r.n, .string r.s, .bool r.b, .int .i64 r.c]) ?_ rfl ⟨by rw [hres.out], by first | assumption | (go_split_ands; first | assumption | ((repeat (first | (with_reducible exact Below.refl _ _) | (with_reducible refine Below.alloc ?_ (by first | omega | (dsimp only; omega) | (simp <;> omega)) _) | (with_reducible refine Below.setCell ?_ (by first | omega | (dsimp only; omega) | (simp <;> omega)) _) | (with_reducible refine Below.drew ?_) | (with_reducible refine below_drewN ?_ _) | (with_reducible refine Below.trans ?_ (Below.mono (by assumption) (by first | omega | (dsimp only; omega) | (simp <;> omega)))))); done)) | ((repeat (first | (with_reducible exact Below.refl _ _) | (with_reducible refine Below.alloc ?_ (by first | omega | (dsimp only; omega) | (simp <;> omega)) _) | (with_reducible refine Below.setCell ?_ (by first | omega | (dsimp only; omega) | (simp <;> omega)) _) | (with_reducible refine Below.drew ?_) | (with_reducible refine below_drewN ?_ _) | (with_reducible refine Below.trans ?_ (Below.mono (by assumption) (by first | omega | (dsimp only; omega) | (simp <;> omega)))))); done)⟩
              simp [results, Tryz.results5, go_sem, *]
            · have hb1 : (2 : Int) ≤ (l.length : Int) := (takesN_known ht'.out).2.1
              have hb2 : (l.length : Int) ≤ 2 := (takesN_known ht'.out).2.2
              obtain ⟨x, y, hL⟩ := len2 (l := l.map fun x => x.v.asN) (by rw [List.length_map]; omega)
              have hn2 : l.length = 2 := by omega
              have c0 : wr.cell? ⟨gb, 0, none⟩ = some (.int .i64 x) := hcl'.out 0 x (by rw [hL]; rfl)
              have hx := hLb.out x (by rw [hL]; simp)
              have c1 : wr.cell? ⟨gb, 1, none⟩ = some (.int .i64 y) := hcl'.out 1 y (by rw [hL]; rfl)
              have hy := hLb.out y (by rw [hL]; simp)
              have hres := Lib.hid (show callR ⟨#[67, 69, 73, 76]⟩ l (doR ⟨#[67, 69, 73, 76]⟩ (l.map fun x => x.v.asN)) = toldL (-(nfloorV (-x) y)) (nfloorC (-x) y) from by rw [hcr'.out, hL]; rfl)
              clear hL
              have i1 : (1 : Int) < (l.length : Int) := by omega
              have i0 : (0 : Int) < (l.length : Int) := by omega
              have n0 : 0 < l.length := by omega
              have C2 := fun w2 : World => r8two_CEIL x hx y hy w2
              obtain ⟨r, hr⟩ : ∃ r : VL, (toldL (-(nfloorV (-x) y)) (nfloorC (-x) y)) = r := ⟨_, rfl⟩
              rw [hr] at C2 hres
              have C2' := Lib.hid C2
              clear C2 hr
              go_wp2
              first | (go_loud (go_region_held3 (fun w' => w'.cell? ⟨gb, 0, none⟩ = some (.int .i64 x) ∧ w'.cell? ⟨gb, 1, none⟩ = some (.int .i64 y) ∧ ResAt w' (w.heap.size) 5 ∧ Below w.heap.size w w' ∧ wr.heap.size ≤ w'.heap.size)
                (first | (go_split_ands; exact ⟨(by simp [go_sem, *]), (by simp [go_sem, *]), (by first | (with_reducible exact ResAt.drew (ResAt.new5 _ _ _ _ _ _ _)) | (repeat (first | (with_reducible assumption) | (with_reducible refine ResAt.setCell ?_ _ _) | (with_reducible refine ResAt.drew ?_) | (with_reducible refine ResAt.drewN ?_ _)))), (by (repeat (first | (with_reducible exact Below.refl _ _) | (with_reducible refine Below.alloc ?_ (by first | omega | (dsimp only; omega) | (simp <;> omega)) _) | (with_reducible refine Below.setCell ?_ (by first | omega | (dsimp only; omega) | (simp <;> omega)) _) | (with_reducible refine Below.drew ?_) | (with_reducible refine below_drewN ?_ _) | (with_reducible refine Below.trans ?_ (Below.mono (by assumption) (by first | omega | (dsimp only; omega) | (simp <;> omega))))))), (by first | (simp; done) | (simp; omega))⟩) | (exact ⟨(by simp [go_sem, *]), (by simp [go_sem, *]), (by first | (with_reducible exact ResAt.drew (ResAt.new5 _ _ _ _ _ _ _)) | (repeat (first | (with_reducible assumption) | (with_reducible refine ResAt.setCell ?_ _ _) | (with_reducible refine ResAt.drew ?_) | (with_reducible refine ResAt.drewN ?_ _)))), (by (repeat (first | (with_reducible exact Below.refl _ _) | (with_reducible refine Below.alloc ?_ (by first | omega | (dsimp only; omega) | (simp <;> omega)) _) | (with_reducible refine Below.setCell ?_ (by first | omega | (dsimp only; omega) | (simp <;> omega)) _) | (with_reducible refine Below.drew ?_) | (with_reducible refine below_drewN ?_ _) | (with_reducible refine Below.trans ?_ (Below.mono (by assumption) (by first | omega | (dsimp only; omega) | (simp <;> omega))))))), (by first | (simp; done) | (simp; omega))⟩) | (go_split_ands; exact ⟨(by rw [hb.cell (by dsimp only; omega)]; assumption), (by rw [hb.cell (by dsimp only; omega)]; assumption), (ResAt.below (by assumption) hb (by omega)), (Below.trans (by assumption) (hb.mono (by omega))), (by have := hb.size; omega)⟩))
                (first | (go_at_call 20; refine (C2'.out _).mono ?_; rintro e w1 ⟨rfl, hb⟩)))) | fail "region"
              go_split_ands
              go_wp2
              try simp only [resAt_setCell] at *
              refine bodyPost_ret (v := .agg #[.int .i64 r.t, .int .i64 r.n, .string r.s, .bool r.b, .int .i64 r.c]) ?_ rfl ⟨by rw [hres.out], by first | assumption | (go_split_ands; first | assumption | ((repeat (first | (with_reducible exact Below.refl _ _) | (with_reducible refine Below.alloc ?_ (by first | omega | (dsimp only; omega) | (simp <;> omega)) _) | (with_reducible refine Below.setCell ?_ (by first | omega | (dsimp only; omega) | (simp <;> omega)) _) | (with_reducible refine Below.drew ?_) | (with_reducible refine below_drewN ?_ _) | (with_reducible refine Below.trans ?_ (Below.mono (by assumption) (by first | omega | (dsimp only; omega) | (simp <;> omega)))))); done)) | ((repeat (first | (with_reducible exact Below.refl _ _) | (with_reducible refine Below.alloc ?_ (by first | omega | (dsimp only; omega) | (simp <;> omega)) _) | (with_reducible refine Below.setCell ?_ (by first | omega | (dsimp only; omega) | (simp <;> omega)) _) | (with_reducible refine Below.drew ?_) | (with_reducible refine below_drewN ?_ _) | (with_reducible refine Below.trans ?_ (Below.mono (by assumption) (by first | omega | (dsimp only; omega) | (simp <;> omega)))))); done)⟩
              simp [results, Tryz.results5, go_sem, *]
            · have hb1 : (2 : Int) ≤ (l.length : Int) := (takesN_known ht'.out).2.1
              have hb2 : (l.length : Int) ≤ 2 := (takesN_known ht'.out).2.2
              obtain ⟨x, y, hL⟩ := len2 (l := l.map fun x => x.v.asN) (by rw [List.length_map]; omega)
              have hn2 : l.length = 2 := by omega
              have c0 : wr.cell? ⟨gb, 0, none⟩ = some (.int .i64 x) := hcl'.out 0 x (by rw [hL]; rfl)
              have hx := hLb.out x (by rw [hL]; simp)
              have c1 : wr.cell? ⟨gb, 1, none⟩ = some (.int .i64 y) := hcl'.out 1 y (by rw [hL]; rfl)
              have hy := hLb.out y (by rw [hL]; simp)
              have hres := Lib.hid (show callR ⟨#[70, 76, 79, 79, 82]⟩ l (doR ⟨#[70, 76, 79, 79, 82]⟩ (l.map fun x => x.v.asN)) = toldL (nfloorV x y) (nfloorC x y) from by rw [hcr'.out, hL]; rfl)
              clear hL
              have i1 : (1 : Int) < (l.length : Int) := by omega
              have i0 : (0 : Int) < (l.length : Int) := by omega
              have n0 : 0 < l.length := by omega
              have C2 := fun w2 : World => r8two_FLOOR x hx y hy w2
              obtain ⟨r, hr⟩ : ∃ r : VL, (toldL (nfloorV x y) (nfloorC x y)) = r := ⟨_, rfl⟩
              rw [hr] at C2 hres
              have C2' := Lib.hid C2
              clear C2 hr
              go_wp2
              first | (go_loud (go_region_held3 (fun w' => w'.cell? ⟨gb, 0, none⟩ = some (.int .i64 x) ∧ w'.cell? ⟨gb, 1, none⟩ = some (.int .i64 y) ∧ ResAt w' (w.heap.size) 5 ∧ Below w.heap.size w w' ∧ wr.heap.size ≤ w'.heap.size)
                (first | (go_split_ands; exact ⟨(by simp [go_sem, *]), (by simp [go_sem, *]), (by first | (with_reducible exact ResAt.drew (ResAt.new5 _ _ _ _ _ _ _)) | (repeat (first | (with_reducible assumption) | (with_reducible refine ResAt.setCell ?_ _ _) | (with_reducible refine ResAt.drew ?_) | (with_reducible refine ResAt.drewN ?_ _)))), (by (repeat (first | (with_reducible exact Below.refl _ _) | (with_reducible refine Below.alloc ?_ (by first | omega | (dsimp only; omega) | (simp <;> omega)) _) | (with_reducible refine Below.setCell ?_ (by first | omega | (dsimp only; omega) | (simp <;> omega)) _) | (with_reducible refine Below.drew ?_) | (with_reducible refine below_drewN ?_ _) | (with_reducible refine Below.trans ?_ (Below.mono (by assumption) (by first | omega | (dsimp only; omega) | (simp <;> omega))))))), (by first | (simp; done) | (simp; omega))⟩) | (exact ⟨(by simp [go_sem, *]), (by simp [go_sem, *]), (by first | (with_reducible exact ResAt.drew (ResAt.new5 _ _ _ _ _ _ _)) | (repeat (first | (with_reducible assumption) | (with_reducible refine ResAt.setCell ?_ _ _) | (with_reducible refine ResAt.drew ?_) | (with_reducible refine ResAt.drewN ?_ _)))), (by (repeat (first | (with_reducible exact Below.refl _ _) | (with_reducible refine Below.alloc ?_ (by first | omega | (dsimp only; omega) | (simp <;> omega)) _) | (with_reducible refine Below.setCell ?_ (by first | omega | (dsimp only; omega) | (simp <;> omega)) _) | (with_reducible refine Below.drew ?_) | (with_reducible refine below_drewN ?_ _) | (with_reducible refine Below.trans ?_ (Below.mono (by assumption) (by first | omega | (dsimp only; omega) | (simp <;> omega))))))), (by first | (simp; done) | (simp; omega))⟩) | (go_split_ands; exact ⟨(by rw [hb.cell (by dsimp only; omega)]; assumption), (by rw [hb.cell (by dsimp only; omega)]; assumption), (ResAt.below (by assumption) hb (by omega)), (Below.trans (by assumption) (hb.mono (by omega))), (by have := hb.size; omega)⟩))
                (first | (go_at_call 20; refine (C2'.out _).mono ?_; rintro e w1 ⟨rfl, hb⟩)))) | fail "region"
              go_split_ands
              go_wp2
              try simp only [resAt_setCell] at *
              refine bodyPost_ret (v := .agg #[.int .i64 r.t, .int .i64 r.n, .string r.s, .bool r.b, .int .i64 r.c]) ?_ rfl ⟨by rw [hres.out], by first | assumption | (go_split_ands; first | assumption | ((repeat (first | (with_reducible exact Below.refl _ _) | (with_reducible refine Below.alloc ?_ (by first | omega | (dsimp only; omega) | (simp <;> omega)) _) | (with_reducible refine Below.setCell ?_ (by first | omega | (dsimp only; omega) | (simp <;> omega)) _) | (with_reducible refine Below.drew ?_) | (with_reducible refine below_drewN ?_ _) | (with_reducible refine Below.trans ?_ (Below.mono (by assumption) (by first | omega | (dsimp only; omega) | (simp <;> omega)))))); done)) | ((repeat (first | (with_reducible exact Below.refl _ _) | (with_reducible refine Below.alloc ?_ (by first | omega | (dsimp only; omega) | (simp <;> omega)) _) | (with_reducible refine Below.setCell ?_ (by first | omega | (dsimp only; omega) | (simp <;> omega)) _) | (with_reducible refine Below.drew ?_) | (with_reducible refine below_drewN ?_ _) | (with_reducible refine Below.trans ?_ (Below.mono (by assumption) (by first | omega | (dsimp only; omega) | (simp <;> omega)))))); done)⟩
              simp [results, Tryz.results5, go_sem, *]
            · have hb1 : (1 : Int) ≤ (l.length : Int) := (takesN_known ht'.out).2.1
              have hb2 : (l.length : Int) ≤ 2 := (takesN_known ht'.out).2.2
              by_cases hone : l.length = 1
              · obtain ⟨x, hL⟩ := len1 (l := l.map fun x => x.v.asN) (by rw [List.length_map]; omega)
                have hn1 : l.length = 1 := by omega
                have c0 : wr.cell? ⟨gb, 0, none⟩ = some (.int .i64 x) := hcl'.out 0 x (by rw [hL]; rfl)
                have hx := hLb.out x (by rw [hL]; simp)
                have hres := Lib.hid (show callR ⟨#[82, 79, 85, 78, 68]⟩ l (doR ⟨#[82, 79, 85, 78, 68]⟩ (l.map fun x => x.v.asN)) = toldL (roundV x 0) (roundC x 0) from by rw [hcr'.out, hL]; rfl)
                have hLk := Lib.hid hL
                clear hL
                have hown' := Lib.hid (show wr.ownsRow (w.heap.size + 1) 2 1 (.slice (some ⟨gb, 0, none⟩) l.length gc) 1 ([x].map fun n => Value.int .i64 n) from by have h := hownk.out; rw [hLk.out] at h; rw [hn1] at h ⊢; exact h)
                have C2 : ∀ w2 : World, Calls Tryz.prog 20 #[.string ⟨#[82, 79, 85, 78, 68]⟩, .int .i64 x, .int .i64 0] w2 fun e w' => e = .returned (.agg #[.int .i64 (toldL (roundV x 0) (roundC x 0)).t, .int .i64 (toldL (roundV x 0) (roundC x 0)).n, .string (toldL (roundV x 0) (roundC x 0)).s, .bool (toldL (roundV x 0) (roundC x 0)).b, .int .i64 (toldL (roundV x 0) (roundC x 0)).c]) ∧ Below w2.heap.size w2 w' := fun w2 => by
                  have := r8two_ROUND x hx 0 (by omega) w2
                  rw [show wholeB 0 = true from by decide, if_pos rfl, show wholeV 0 = 0 from by decide] at this
                  exact this
                obtain ⟨r, hr⟩ : ∃ r : VL, (toldL (roundV x 0) (roundC x 0)) = r := ⟨_, rfl⟩
                rw [hr] at C2 hres
                have C2' := Lib.hid C2
                clear C2 hr
                go_wp2_with (at_builtin; refine wpList_append_own_at _ rfl _ _ 39 rfl (w.heap.size + 1) 2 j0 (.int .i64 0) 1 8 Tryz.underlying39 hj hy0 hy1 hy2 rfl (by decide) _ _ _ rfl (hown'.out.alloc _) ⟨wr.heap.size, 0, none⟩ 1 1 [.int .i64 0] rfl rfl (cell_one_new _ _ _) (by simp [Value.oneCell']) (by unfold maxLen; omega) (by omega) (by simp; omega) ?_; intro v2 w2 hown2 hgrow2 _ hloc2; (have hrow2 := ownsRow_i64 (l := [x, 0]) (by first | exact hown2 | simpa using hown2) (by omega)); (obtain ⟨g2, cp2, rfl, hB2, hcp2, hcl2⟩ := hrow2); (have d0 : w2.cell? ⟨g2, 0, none⟩ = some (.int .i64 x) := hcl2 0 x rfl); (have d1 : w2.cell? ⟨g2, 1, none⟩ = some (.int .i64 0) := hcl2 1 _ rfl); (have hb2 : Below (w.heap.size + 1) (w.alloc (.cells #[.int .i64 0, .int .i64 0, .string ⟨#[]⟩, .bool false, .int .i64 0] 26)) w2 := (hbr.alloc hzr _).grown hgrow2 (by simp; omega) (fun j hj => (hown'.out.lt j hj).1)); (have hzw : w.heap.size + 1 ≤ w2.heap.size := by have := hb2.size; simp at this; omega); (have hres2 := ResAt.below (ResAt.new5 w _ _ _ _ _ 26) hb2 (by omega)); (have hgw : Below w.heap.size w w2 := b0.trans (hb2.mono (by omega))); (have hne2 : g2 ≠ w.heap.size := by omega); (have hg2l : g2 < w2.heap.size := (hown2.lt g2 rfl).2); (clear hown2 hgrow2 hloc2 hcl2 hb2 hbr g0 hres0))
                first | (go_loud (go_region_held3 (fun w' => w'.cell? ⟨g2, 0, none⟩ = some (.int .i64 x) ∧ w'.cell? ⟨g2, 1, none⟩ = some (.int .i64 0) ∧ ResAt w' (w.heap.size) 5 ∧ Below w.heap.size w w' ∧ w2.heap.size ≤ w'.heap.size)
                  (first | (go_split_ands; exact ⟨(by simp [go_sem, *]), (by simp [go_sem, *]), (by first | (with_reducible exact ResAt.drew (ResAt.new5 _ _ _ _ _ _ _)) | (repeat (first | (with_reducible assumption) | (with_reducible refine ResAt.setCell ?_ _ _) | (with_reducible refine ResAt.drew ?_) | (with_reducible refine ResAt.drewN ?_ _)))), (by (repeat (first | (with_reducible exact Below.refl _ _) | (with_reducible refine Below.alloc ?_ (by first | omega | (dsimp only; omega) | (simp <;> omega)) _) | (with_reducible refine Below.setCell ?_ (by first | omega | (dsimp only; omega) | (simp <;> omega)) _) | (with_reducible refine Below.drew ?_) | (with_reducible refine below_drewN ?_ _) | (with_reducible refine Below.trans ?_ (Below.mono (by assumption) (by first | omega | (dsimp only; omega) | (simp <;> omega))))))), (by first | (simp; done) | (simp; omega))⟩) | (exact ⟨(by simp [go_sem, *]), (by simp [go_sem, *]), (by first | (with_reducible exact ResAt.drew (ResAt.new5 _ _ _ _ _ _ _)) | (repeat (first | (with_reducible assumption) | (with_reducible refine ResAt.setCell ?_ _ _) | (with_reducible refine ResAt.drew ?_) | (with_reducible refine ResAt.drewN ?_ _)))), (by (repeat (first | (with_reducible exact Below.refl _ _) | (with_reducible refine Below.alloc ?_ (by first | omega | (dsimp only; omega) | (simp <;> omega)) _) | (with_reducible refine Below.setCell ?_ (by first | omega | (dsimp only; omega) | (simp <;> omega)) _) | (with_reducible refine Below.drew ?_) | (with_reducible refine below_drewN ?_ _) | (with_reducible refine Below.trans ?_ (Below.mono (by assumption) (by first | omega | (dsimp only; omega) | (simp <;> omega))))))), (by first | (simp; done) | (simp; omega))⟩) | (go_split_ands; exact ⟨(by rw [hb.cell (by dsimp only; omega)]; assumption), (by rw [hb.cell (by dsimp only; omega)]; assumption), (ResAt.below (by assumption) hb (by omega)), (Below.trans (by assumption) (hb.mono (by omega))), (by have := hb.size; omega)⟩))
                  (first | (go_at_call 20; refine (C2'.out _).mono ?_; rintro e w1 ⟨rfl, hb⟩)))) | fail "region"
                go_split_ands
                go_wp2
                try simp only [resAt_setCell] at *
                refine bodyPost_ret (v := .agg #[.int .i64 r.t, .int .i64 r.n, .string r.s, .bool r.b, .int .i64 r.c]) ?_ rfl ⟨by rw [hres.out], by first | assumption | (go_split_ands; first | assumption | ((repeat (first | (with_reducible exact Below.refl _ _) | (with_reducible refine Below.alloc ?_ (by first | omega | (dsimp only; omega) | (simp <;> omega)) _) | (with_reducible refine Below.setCell ?_ (by first | omega | (dsimp only; omega) | (simp <;> omega)) _) | (with_reducible refine Below.drew ?_) | (with_reducible refine below_drewN ?_ _) | (with_reducible refine Below.trans ?_ (Below.mono (by assumption) (by first | omega | (dsimp only; omega) | (simp <;> omega)))))); done)) | ((repeat (first | (with_reducible exact Below.refl _ _) | (with_reducible refine Below.alloc ?_ (by first | omega | (dsimp only; omega) | (simp <;> omega)) _) | (with_reducible refine Below.setCell ?_ (by first | omega | (dsimp only; omega) | (simp <;> omega)) _) | (with_reducible refine Below.drew ?_) | (with_reducible refine below_drewN ?_ _) | (with_reducible refine Below.trans ?_ (Below.mono (by assumption) (by first | omega | (dsimp only; omega) | (simp <;> omega)))))); done)⟩
                simp [results, Tryz.results5, go_sem, *]
              · obtain ⟨x, y, hL⟩ := len2 (l := l.map fun x => x.v.asN) (by rw [List.length_map]; omega)
                have hn2 : l.length = 2 := by omega
                have c0 : wr.cell? ⟨gb, 0, none⟩ = some (.int .i64 x) := hcl'.out 0 x (by rw [hL]; rfl)
                have hx := hLb.out x (by rw [hL]; simp)
                have c1 : wr.cell? ⟨gb, 1, none⟩ = some (.int .i64 y) := hcl'.out 1 y (by rw [hL]; rfl)
                have hy := hLb.out y (by rw [hL]; simp)
                have hres := Lib.hid (show callR ⟨#[82, 79, 85, 78, 68]⟩ l (doR ⟨#[82, 79, 85, 78, 68]⟩ (l.map fun x => x.v.asN)) = if wholeB y = true then toldL (roundV x (wholeV y)) (roundC x (wholeV y)) else errL 8 from by rw [hcr'.out, hL]; rfl)
                have hLk := Lib.hid hL
                clear hL
                have hown' := Lib.hid (show wr.ownsRow (w.heap.size + 1) 2 1 (.slice (some ⟨gb, 0, none⟩) l.length gc) 2 ([x, y].map fun n => Value.int .i64 n) from by have h := hownk.out; rw [hLk.out] at h; rw [hn2] at h ⊢; exact h)
                have C2 : ∀ w2 : World, Calls Tryz.prog 20 #[.string ⟨#[82, 79, 85, 78, 68]⟩, .int .i64 x, .int .i64 y] w2 fun e w' => e = .returned (.agg #[.int .i64 (if wholeB y = true then toldL (roundV x (wholeV y)) (roundC x (wholeV y)) else errL 8).t, .int .i64 (if wholeB y = true then toldL (roundV x (wholeV y)) (roundC x (wholeV y)) else errL 8).n, .string (if wholeB y = true then toldL (roundV x (wholeV y)) (roundC x (wholeV y)) else errL 8).s, .bool (if wholeB y = true then toldL (roundV x (wholeV y)) (roundC x (wholeV y)) else errL 8).b, .int .i64 (if wholeB y = true then toldL (roundV x (wholeV y)) (roundC x (wholeV y)) else errL 8).c]) ∧ Below w2.heap.size w2 w' := fun w2 => by
                  have := r8two_ROUND x hx y (by omega) w2
                  skip
                  exact this
                obtain ⟨r, hr⟩ : ∃ r : VL, (if wholeB y = true then toldL (roundV x (wholeV y)) (roundC x (wholeV y)) else errL 8) = r := ⟨_, rfl⟩
                rw [hr] at C2 hres
                have C2' := Lib.hid C2
                clear C2 hr
                go_wp2_with (at_builtin; refine wpList_append_own_at _ rfl _ _ 39 rfl (w.heap.size + 1) 2 j0 (.int .i64 0) 1 8 Tryz.underlying39 hj hy0 hy1 hy2 rfl (by decide) _ _ _ rfl (hown'.out.alloc _) ⟨wr.heap.size, 0, none⟩ 1 1 [.int .i64 0] rfl rfl (cell_one_new _ _ _) (by simp [Value.oneCell']) (by unfold maxLen; omega) (by omega) (by simp; omega) ?_; intro v2 w2 hown2 hgrow2 _ hloc2; (have hrow2 := ownsRow_i64 (l := [x, y, 0]) (by first | exact hown2 | simpa using hown2) (by omega)); (obtain ⟨g2, cp2, rfl, hB2, hcp2, hcl2⟩ := hrow2); (have d0 : w2.cell? ⟨g2, 0, none⟩ = some (.int .i64 x) := hcl2 0 x rfl); (have d1 : w2.cell? ⟨g2, 1, none⟩ = some (.int .i64 y) := hcl2 1 _ rfl); (have hb2 : Below (w.heap.size + 1) (w.alloc (.cells #[.int .i64 0, .int .i64 0, .string ⟨#[]⟩, .bool false, .int .i64 0] 26)) w2 := (hbr.alloc hzr _).grown hgrow2 (by simp; omega) (fun j hj => (hown'.out.lt j hj).1)); (have hzw : w.heap.size + 1 ≤ w2.heap.size := by have := hb2.size; simp at this; omega); (have hres2 := ResAt.below (ResAt.new5 w _ _ _ _ _ 26) hb2 (by omega)); (have hgw : Below w.heap.size w w2 := b0.trans (hb2.mono (by omega))); (have hne2 : g2 ≠ w.heap.size := by omega); (have hg2l : g2 < w2.heap.size := (hown2.lt g2 rfl).2); (clear hown2 hgrow2 hloc2 hcl2 hb2 hbr g0 hres0))
                first | (go_loud (go_region_held3 (fun w' => w'.cell? ⟨g2, 0, none⟩ = some (.int .i64 x) ∧ w'.cell? ⟨g2, 1, none⟩ = some (.int .i64 y) ∧ ResAt w' (w.heap.size) 5 ∧ Below w.heap.size w w' ∧ w2.heap.size ≤ w'.heap.size)
                  (first | (go_split_ands; exact ⟨(by simp [go_sem, *]), (by simp [go_sem, *]), (by first | (with_reducible exact ResAt.drew (ResAt.new5 _ _ _ _ _ _ _)) | (repeat (first | (with_reducible assumption) | (with_reducible refine ResAt.setCell ?_ _ _) | (with_reducible refine ResAt.drew ?_) | (with_reducible refine ResAt.drewN ?_ _)))), (by (repeat (first | (with_reducible exact Below.refl _ _) | (with_reducible refine Below.alloc ?_ (by first | omega | (dsimp only; omega) | (simp <;> omega)) _) | (with_reducible refine Below.setCell ?_ (by first | omega | (dsimp only; omega) | (simp <;> omega)) _) | (with_reducible refine Below.drew ?_) | (with_reducible refine below_drewN ?_ _) | (with_reducible refine Below.trans ?_ (Below.mono (by assumption) (by first | omega | (dsimp only; omega) | (simp <;> omega))))))), (by first | (simp; done) | (simp; omega))⟩) | (exact ⟨(by simp [go_sem, *]), (by simp [go_sem, *]), (by first | (with_reducible exact ResAt.drew (ResAt.new5 _ _ _ _ _ _ _)) | (repeat (first | (with_reducible assumption) | (with_reducible refine ResAt.setCell ?_ _ _) | (with_reducible refine ResAt.drew ?_) | (with_reducible refine ResAt.drewN ?_ _)))), (by (repeat (first | (with_reducible exact Below.refl _ _) | (with_reducible refine Below.alloc ?_ (by first | omega | (dsimp only; omega) | (simp <;> omega)) _) | (with_reducible refine Below.setCell ?_ (by first | omega | (dsimp only; omega) | (simp <;> omega)) _) | (with_reducible refine Below.drew ?_) | (with_reducible refine below_drewN ?_ _) | (with_reducible refine Below.trans ?_ (Below.mono (by assumption) (by first | omega | (dsimp only; omega) | (simp <;> omega))))))), (by first | (simp; done) | (simp; omega))⟩) | (go_split_ands; exact ⟨(by rw [hb.cell (by dsimp only; omega)]; assumption), (by rw [hb.cell (by dsimp only; omega)]; assumption), (ResAt.below (by assumption) hb (by omega)), (Below.trans (by assumption) (hb.mono (by omega))), (by have := hb.size; omega)⟩))
                  (first | (go_at_call 20; refine (C2'.out _).mono ?_; rintro e w1 ⟨rfl, hb⟩)))) | fail "region"
                go_split_ands
                go_wp2
                try simp only [resAt_setCell] at *
                refine bodyPost_ret (v := .agg #[.int .i64 r.t, .int .i64 r.n, .string r.s, .bool r.b, .int .i64 r.c]) ?_ rfl ⟨by rw [hres.out], by first | assumption | (go_split_ands; first | assumption | ((repeat (first | (with_reducible exact Below.refl _ _) | (with_reducible refine Below.alloc ?_ (by first | omega | (dsimp only; omega) | (simp <;> omega)) _) | (with_reducible refine Below.setCell ?_ (by first | omega | (dsimp only; omega) | (simp <;> omega)) _) | (with_reducible refine Below.drew ?_) | (with_reducible refine below_drewN ?_ _) | (with_reducible refine Below.trans ?_ (Below.mono (by assumption) (by first | omega | (dsimp only; omega) | (simp <;> omega)))))); done)) | ((repeat (first | (with_reducible exact Below.refl _ _) | (with_reducible refine Below.alloc ?_ (by first | omega | (dsimp only; omega) | (simp <;> omega)) _) | (with_reducible refine Below.setCell ?_ (by first | omega | (dsimp only; omega) | (simp <;> omega)) _) | (with_reducible refine Below.drew ?_) | (with_reducible refine below_drewN ?_ _) | (with_reducible refine Below.trans ?_ (Below.mono (by assumption) (by first | omega | (dsimp only; omega) | (simp <;> omega)))))); done)⟩
                simp [results, Tryz.results5, go_sem, *]
            · have hb1 : (1 : Int) ≤ (l.length : Int) := (takesN_known ht'.out).2.1
              have hb2 : (l.length : Int) ≤ 2 := (takesN_known ht'.out).2.2
              by_cases hone : l.length = 1
              · obtain ⟨x, hL⟩ := len1 (l := l.map fun x => x.v.asN) (by rw [List.length_map]; omega)
                have hn1 : l.length = 1 := by omega
                have c0 : wr.cell? ⟨gb, 0, none⟩ = some (.int .i64 x) := hcl'.out 0 x (by rw [hL]; rfl)
                have hx := hLb.out x (by rw [hL]; simp)
                have hres := Lib.hid (show callR ⟨#[84, 82, 85, 78, 67]⟩ l (doR ⟨#[84, 82, 85, 78, 67]⟩ (l.map fun x => x.v.asN)) = toldL (truncV x 0) 0 from by rw [hcr'.out, hL]; rfl)
                have hLk := Lib.hid hL
                clear hL
                have hown' := Lib.hid (show wr.ownsRow (w.heap.size + 1) 2 1 (.slice (some ⟨gb, 0, none⟩) l.length gc) 1 ([x].map fun n => Value.int .i64 n) from by have h := hownk.out; rw [hLk.out] at h; rw [hn1] at h ⊢; exact h)
                have C2 : ∀ w2 : World, Calls Tryz.prog 20 #[.string ⟨#[84, 82, 85, 78, 67]⟩, .int .i64 x, .int .i64 0] w2 fun e w' => e = .returned (.agg #[.int .i64 (toldL (truncV x 0) 0).t, .int .i64 (toldL (truncV x 0) 0).n, .string (toldL (truncV x 0) 0).s, .bool (toldL (truncV x 0) 0).b, .int .i64 (toldL (truncV x 0) 0).c]) ∧ Below w2.heap.size w2 w' := fun w2 => by
                  have := r8two_TRUNC x hx 0 (by omega) w2
                  rw [show wholeB 0 = true from by decide, if_pos rfl, show wholeV 0 = 0 from by decide] at this
                  exact this
                obtain ⟨r, hr⟩ : ∃ r : VL, (toldL (truncV x 0) 0) = r := ⟨_, rfl⟩
                rw [hr] at C2 hres
                have C2' := Lib.hid C2
                clear C2 hr
                go_wp2_with (at_builtin; refine wpList_append_own_at _ rfl _ _ 39 rfl (w.heap.size + 1) 2 j0 (.int .i64 0) 1 8 Tryz.underlying39 hj hy0 hy1 hy2 rfl (by decide) _ _ _ rfl (hown'.out.alloc _) ⟨wr.heap.size, 0, none⟩ 1 1 [.int .i64 0] rfl rfl (cell_one_new _ _ _) (by simp [Value.oneCell']) (by unfold maxLen; omega) (by omega) (by simp; omega) ?_; intro v2 w2 hown2 hgrow2 _ hloc2; (have hrow2 := ownsRow_i64 (l := [x, 0]) (by first | exact hown2 | simpa using hown2) (by omega)); (obtain ⟨g2, cp2, rfl, hB2, hcp2, hcl2⟩ := hrow2); (have d0 : w2.cell? ⟨g2, 0, none⟩ = some (.int .i64 x) := hcl2 0 x rfl); (have d1 : w2.cell? ⟨g2, 1, none⟩ = some (.int .i64 0) := hcl2 1 _ rfl); (have hb2 : Below (w.heap.size + 1) (w.alloc (.cells #[.int .i64 0, .int .i64 0, .string ⟨#[]⟩, .bool false, .int .i64 0] 26)) w2 := (hbr.alloc hzr _).grown hgrow2 (by simp; omega) (fun j hj => (hown'.out.lt j hj).1)); (have hzw : w.heap.size + 1 ≤ w2.heap.size := by have := hb2.size; simp at this; omega); (have hres2 := ResAt.below (ResAt.new5 w _ _ _ _ _ 26) hb2 (by omega)); (have hgw : Below w.heap.size w w2 := b0.trans (hb2.mono (by omega))); (have hne2 : g2 ≠ w.heap.size := by omega); (have hg2l : g2 < w2.heap.size := (hown2.lt g2 rfl).2); (clear hown2 hgrow2 hloc2 hcl2 hb2 hbr g0 hres0))
                first | (go_loud (go_region_held3 (fun w' => w'.cell? ⟨g2, 0, none⟩ = some (.int .i64 x) ∧ w'.cell? ⟨g2, 1, none⟩ = some (.int .i64 0) ∧ ResAt w' (w.heap.size) 5 ∧ Below w.heap.size w w' ∧ w2.heap.size ≤ w'.heap.size)
                  (first | (go_split_ands; exact ⟨(by simp [go_sem, *]), (by simp [go_sem, *]), (by first | (with_reducible exact ResAt.drew (ResAt.new5 _ _ _ _ _ _ _)) | (repeat (first | (with_reducible assumption) | (with_reducible refine ResAt.setCell ?_ _ _) | (with_reducible refine ResAt.drew ?_) | (with_reducible refine ResAt.drewN ?_ _)))), (by (repeat (first | (with_reducible exact Below.refl _ _) | (with_reducible refine Below.alloc ?_ (by first | omega | (dsimp only; omega) | (simp <;> omega)) _) | (with_reducible refine Below.setCell ?_ (by first | omega | (dsimp only; omega) | (simp <;> omega)) _) | (with_reducible refine Below.drew ?_) | (with_reducible refine below_drewN ?_ _) | (with_reducible refine Below.trans ?_ (Below.mono (by assumption) (by first | omega | (dsimp only; omega) | (simp <;> omega))))))), (by first | (simp; done) | (simp; omega))⟩) | (exact ⟨(by simp [go_sem, *]), (by simp [go_sem, *]), (by first | (with_reducible exact ResAt.drew (ResAt.new5 _ _ _ _ _ _ _)) | (repeat (first | (with_reducible assumption) | (with_reducible refine ResAt.setCell ?_ _ _) | (with_reducible refine ResAt.drew ?_) | (with_reducible refine ResAt.drewN ?_ _)))), (by (repeat (first | (with_reducible exact Below.refl _ _) | (with_reducible refine Below.alloc ?_ (by first | omega | (dsimp only; omega) | (simp <;> omega)) _) | (with_reducible refine Below.setCell ?_ (by first | omega | (dsimp only; omega) | (simp <;> omega)) _) | (with_reducible refine Below.drew ?_) | (with_reducible refine below_drewN ?_ _) | (with_reducible refine Below.trans ?_ (Below.mono (by assumption) (by first | omega | (dsimp only; omega) | (simp <;> omega))))))), (by first | (simp; done) | (simp; omega))⟩) | (go_split_ands; exact ⟨(by rw [hb.cell (by dsimp only; omega)]; assumption), (by rw [hb.cell (by dsimp only; omega)]; assumption), (ResAt.below (by assumption) hb (by omega)), (Below.trans (by assumption) (hb.mono (by omega))), (by have := hb.size; omega)⟩))
                  (first | (go_at_call 20; refine (C2'.out _).mono ?_; rintro e w1 ⟨rfl, hb⟩)))) | fail "region"
                go_split_ands
                go_wp2
                try simp only [resAt_setCell] at *
                refine bodyPost_ret (v := .agg #[.int .i64 r.t, .int .i64 r.n, .string r.s, .bool r.b, .int .i64 r.c]) ?_ rfl ⟨by rw [hres.out], by first | assumption | (go_split_ands; first | assumption | ((repeat (first | (with_reducible exact Below.refl _ _) | (with_reducible refine Below.alloc ?_ (by first | omega | (dsimp only; omega) | (simp <;> omega)) _) | (with_reducible refine Below.setCell ?_ (by first | omega | (dsimp only; omega) | (simp <;> omega)) _) | (with_reducible refine Below.drew ?_) | (with_reducible refine below_drewN ?_ _) | (with_reducible refine Below.trans ?_ (Below.mono (by assumption) (by first | omega | (dsimp only; omega) | (simp <;> omega)))))); done)) | ((repeat (first | (with_reducible exact Below.refl _ _) | (with_reducible refine Below.alloc ?_ (by first | omega | (dsimp only; omega) | (simp <;> omega)) _) | (with_reducible refine Below.setCell ?_ (by first | omega | (dsimp only; omega) | (simp <;> omega)) _) | (with_reducible refine Below.drew ?_) | (with_reducible refine below_drewN ?_ _) | (with_reducible refine Below.trans ?_ (Below.mono (by assumption) (by first | omega | (dsimp only; omega) | (simp <;> omega)))))); done)⟩
                simp [results, Tryz.results5, go_sem, *]
              · obtain ⟨x, y, hL⟩ := len2 (l := l.map fun x => x.v.asN) (by rw [List.length_map]; omega)
                have hn2 : l.length = 2 := by omega
                have c0 : wr.cell? ⟨gb, 0, none⟩ = some (.int .i64 x) := hcl'.out 0 x (by rw [hL]; rfl)
                have hx := hLb.out x (by rw [hL]; simp)
                have c1 : wr.cell? ⟨gb, 1, none⟩ = some (.int .i64 y) := hcl'.out 1 y (by rw [hL]; rfl)
                have hy := hLb.out y (by rw [hL]; simp)
                have hres := Lib.hid (show callR ⟨#[84, 82, 85, 78, 67]⟩ l (doR ⟨#[84, 82, 85, 78, 67]⟩ (l.map fun x => x.v.asN)) = if wholeB y = true then toldL (truncV x (wholeV y)) 0 else errL 8 from by rw [hcr'.out, hL]; rfl)
                have hLk := Lib.hid hL
                clear hL
                have hown' := Lib.hid (show wr.ownsRow (w.heap.size + 1) 2 1 (.slice (some ⟨gb, 0, none⟩) l.length gc) 2 ([x, y].map fun n => Value.int .i64 n) from by have h := hownk.out; rw [hLk.out] at h; rw [hn2] at h ⊢; exact h)
                have C2 : ∀ w2 : World, Calls Tryz.prog 20 #[.string ⟨#[84, 82, 85, 78, 67]⟩, .int .i64 x, .int .i64 y] w2 fun e w' => e = .returned (.agg #[.int .i64 (if wholeB y = true then toldL (truncV x (wholeV y)) 0 else errL 8).t, .int .i64 (if wholeB y = true then toldL (truncV x (wholeV y)) 0 else errL 8).n, .string (if wholeB y = true then toldL (truncV x (wholeV y)) 0 else errL 8).s, .bool (if wholeB y = true then toldL (truncV x (wholeV y)) 0 else errL 8).b, .int .i64 (if wholeB y = true then toldL (truncV x (wholeV y)) 0 else errL 8).c]) ∧ Below w2.heap.size w2 w' := fun w2 => by
                  have := r8two_TRUNC x hx y (by omega) w2
                  skip
                  exact this
                obtain ⟨r, hr⟩ : ∃ r : VL, (if wholeB y = true then toldL (truncV x (wholeV y)) 0 else errL 8) = r := ⟨_, rfl⟩
                rw [hr] at C2 hres
                have C2' := Lib.hid C2
                clear C2 hr
                go_wp2_with (at_builtin; refine wpList_append_own_at _ rfl _ _ 39 rfl (w.heap.size + 1) 2 j0 (.int .i64 0) 1 8 Tryz.underlying39 hj hy0 hy1 hy2 rfl (by decide) _ _ _ rfl (hown'.out.alloc _) ⟨wr.heap.size, 0, none⟩ 1 1 [.int .i64 0] rfl rfl (cell_one_new _ _ _) (by simp [Value.oneCell']) (by unfold maxLen; omega) (by omega) (by simp; omega) ?_; intro v2 w2 hown2 hgrow2 _ hloc2; (have hrow2 := ownsRow_i64 (l := [x, y, 0]) (by first | exact hown2 | simpa using hown2) (by omega)); (obtain ⟨g2, cp2, rfl, hB2, hcp2, hcl2⟩ := hrow2); (have d0 : w2.cell? ⟨g2, 0, none⟩ = some (.int .i64 x) := hcl2 0 x rfl); (have d1 : w2.cell? ⟨g2, 1, none⟩ = some (.int .i64 y) := hcl2 1 _ rfl); (have hb2 : Below (w.heap.size + 1) (w.alloc (.cells #[.int .i64 0, .int .i64 0, .string ⟨#[]⟩, .bool false, .int .i64 0] 26)) w2 := (hbr.alloc hzr _).grown hgrow2 (by simp; omega) (fun j hj => (hown'.out.lt j hj).1)); (have hzw : w.heap.size + 1 ≤ w2.heap.size := by have := hb2.size; simp at this; omega); (have hres2 := ResAt.below (ResAt.new5 w _ _ _ _ _ 26) hb2 (by omega)); (have hgw : Below w.heap.size w w2 := b0.trans (hb2.mono (by omega))); (have hne2 : g2 ≠ w.heap.size := by omega); (have hg2l : g2 < w2.heap.size := (hown2.lt g2 rfl).2); (clear hown2 hgrow2 hloc2 hcl2 hb2 hbr g0 hres0))
                first | (go_loud (go_region_held3 (fun w' => w'.cell? ⟨g2, 0, none⟩ = some (.int .i64 x) ∧ w'.cell? ⟨g2, 1, none⟩ = some (.int .i64 y) ∧ ResAt w' (w.heap.size) 5 ∧ Below w.heap.size w w' ∧ w2.heap.size ≤ w'.heap.size)
                  (first | (go_split_ands; exact ⟨(by simp [go_sem, *]), (by simp [go_sem, *]), (by first | (with_reducible exact ResAt.drew (ResAt.new5 _ _ _ _ _ _ _)) | (repeat (first | (with_reducible assumption) | (with_reducible refine ResAt.setCell ?_ _ _) | (with_reducible refine ResAt.drew ?_) | (with_reducible refine ResAt.drewN ?_ _)))), (by (repeat (first | (with_reducible exact Below.refl _ _) | (with_reducible refine Below.alloc ?_ (by first | omega | (dsimp only; omega) | (simp <;> omega)) _) | (with_reducible refine Below.setCell ?_ (by first | omega | (dsimp only; omega) | (simp <;> omega)) _) | (with_reducible refine Below.drew ?_) | (with_reducible refine below_drewN ?_ _) | (with_reducible refine Below.trans ?_ (Below.mono (by assumption) (by first | omega | (dsimp only; omega) | (simp <;> omega))))))), (by first | (simp; done) | (simp; omega))⟩) | (exact ⟨(by simp [go_sem, *]), (by simp [go_sem, *]), (by first | (with_reducible exact ResAt.drew (ResAt.new5 _ _ _ _ _ _ _)) | (repeat (first | (with_reducible assumption) | (with_reducible refine ResAt.setCell ?_ _ _) | (with_reducible refine ResAt.drew ?_) | (with_reducible refine ResAt.drewN ?_ _)))), (by (repeat (first | (with_reducible exact Below.refl _ _) | (with_reducible refine Below.alloc ?_ (by first | omega | (dsimp only; omega) | (simp <;> omega)) _) | (with_reducible refine Below.setCell ?_ (by first | omega | (dsimp only; omega) | (simp <;> omega)) _) | (with_reducible refine Below.drew ?_) | (with_reducible refine below_drewN ?_ _) | (with_reducible refine Below.trans ?_ (Below.mono (by assumption) (by first | omega | (dsimp only; omega) | (simp <;> omega))))))), (by first | (simp; done) | (simp; omega))⟩) | (go_split_ands; exact ⟨(by rw [hb.cell (by dsimp only; omega)]; assumption), (by rw [hb.cell (by dsimp only; omega)]; assumption), (ResAt.below (by assumption) hb (by omega)), (Below.trans (by assumption) (hb.mono (by omega))), (by have := hb.size; omega)⟩))
                  (first | (go_at_call 20; refine (C2'.out _).mono ?_; rintro e w1 ⟨rfl, hb⟩)))) | fail "region"
                go_split_ands
                go_wp2
                try simp only [resAt_setCell] at *
                refine bodyPost_ret (v := .agg #[.int .i64 r.t, .int .i64 r.n, .string r.s, .bool r.b, .int .i64 r.c]) ?_ rfl ⟨by rw [hres.out], by first | assumption | (go_split_ands; first | assumption | ((repeat (first | (with_reducible exact Below.refl _ _) | (with_reducible refine Below.alloc ?_ (by first | omega | (dsimp only; omega) | (simp <;> omega)) _) | (with_reducible refine Below.setCell ?_ (by first | omega | (dsimp only; omega) | (simp <;> omega)) _) | (with_reducible refine Below.drew ?_) | (with_reducible refine below_drewN ?_ _) | (with_reducible refine Below.trans ?_ (Below.mono (by assumption) (by first | omega | (dsimp only; omega) | (simp <;> omega)))))); done)) | ((repeat (first | (with_reducible exact Below.refl _ _) | (with_reducible refine Below.alloc ?_ (by first | omega | (dsimp only; omega) | (simp <;> omega)) _) | (with_reducible refine Below.setCell ?_ (by first | omega | (dsimp only; omega) | (simp <;> omega)) _) | (with_reducible refine Below.drew ?_) | (with_reducible refine below_drewN ?_ _) | (with_reducible refine Below.trans ?_ (Below.mono (by assumption) (by first | omega | (dsimp only; omega) | (simp <;> omega)))))); done)⟩
                simp [results, Tryz.results5, go_sem, *]
            · have hb1 : (1 : Int) ≤ (l.length : Int) := (takesN_known ht'.out).2.1
              have hb2 : (l.length : Int) ≤ 1 := (takesN_known ht'.out).2.2
              obtain ⟨x, hL⟩ := len1 (l := l.map fun x => x.v.asN) (by rw [List.length_map]; omega)
              have hn1 : l.length = 1 := by omega
              have c0 : wr.cell? ⟨gb, 0, none⟩ = some (.int .i64 x) := hcl'.out 0 x (by rw [hL]; rfl)
              have hx := hLb.out x (by rw [hL]; simp)
              have hres := Lib.hid (show callR ⟨#[73, 78, 84]⟩ l (doR ⟨#[73, 78, 84]⟩ (l.map fun x => x.v.asN)) = toldL (floorV x) (floorC x) from by rw [hcr'.out, hL]; rfl)
              clear hL
              have hc1 : (l.length : Int) = 1 := by omega
              go_wp2_with (go_at_call 19; refine (r8one_INT x hx _).mono ?_; rintro e wq ⟨rfl, hb⟩; obtain ⟨hc, hf, hz⟩ := bkeep hb (wr.heap.size) (by first | omega | (simp <;> omega)))
              try simp only [resAt_setCell] at *
              refine bodyPost_ret (v := .agg #[.int .i64 (toldL (floorV x) (floorC x)).t, .int .i64 (toldL (floorV x) (floorC x)).n, .string (toldL (floorV x) (floorC x)).s, .bool (toldL (floorV x) (floorC x)).b, .int .i64 (toldL (floorV x) (floorC x)).c]) ?_ rfl ⟨by rw [hres.out], by first | assumption | (go_split_ands; first | assumption | ((repeat (first | (with_reducible exact Below.refl _ _) | (with_reducible refine Below.alloc ?_ (by first | omega | (dsimp only; omega) | (simp <;> omega)) _) | (with_reducible refine Below.setCell ?_ (by first | omega | (dsimp only; omega) | (simp <;> omega)) _) | (with_reducible refine Below.drew ?_) | (with_reducible refine below_drewN ?_ _) | (with_reducible refine Below.trans ?_ (Below.mono (by assumption) (by first | omega | (dsimp only; omega) | (simp <;> omega)))))); done)) | ((repeat (first | (with_reducible exact Below.refl _ _) | (with_reducible refine Below.alloc ?_ (by first | omega | (dsimp only; omega) | (simp <;> omega)) _) | (with_reducible refine Below.setCell ?_ (by first | omega | (dsimp only; omega) | (simp <;> omega)) _) | (with_reducible refine Below.drew ?_) | (with_reducible refine below_drewN ?_ _) | (with_reducible refine Below.trans ?_ (Below.mono (by assumption) (by first | omega | (dsimp only; omega) | (simp <;> omega)))))); done)⟩
              simp [results, Tryz.results5, go_sem, *]
            · have hb1 : (1 : Int) ≤ (l.length : Int) := (takesN_known ht'.out).2.1
              have hb2 : (l.length : Int) ≤ 1 := (takesN_known ht'.out).2.2
              obtain ⟨x, hL⟩ := len1 (l := l.map fun x => x.v.asN) (by rw [List.length_map]; omega)
              have hn1 : l.length = 1 := by omega
              have c0 : wr.cell? ⟨gb, 0, none⟩ = some (.int .i64 x) := hcl'.out 0 x (by rw [hL]; rfl)
              have hx := hLb.out x (by rw [hL]; simp)
              have hres := Lib.hid (show callR ⟨#[83, 73, 71, 78]⟩ l (doR ⟨#[83, 73, 71, 78]⟩ (l.map fun x => x.v.asN)) = signL x from by rw [hcr'.out, hL]; rfl)
              clear hL
              have hc1 : (l.length : Int) = 1 := by omega
              go_wp2_with (go_at_call 19; refine (r8one_SIGN x hx _).mono ?_; rintro e wq ⟨rfl, hb⟩; obtain ⟨hc, hf, hz⟩ := bkeep hb (wr.heap.size) (by first | omega | (simp <;> omega)))
              try simp only [resAt_setCell] at *
              refine bodyPost_ret (v := .agg #[.int .i64 (signL x).t, .int .i64 (signL x).n, .string (signL x).s, .bool (signL x).b, .int .i64 (signL x).c]) ?_ rfl ⟨by rw [hres.out], by first | assumption | (go_split_ands; first | assumption | ((repeat (first | (with_reducible exact Below.refl _ _) | (with_reducible refine Below.alloc ?_ (by first | omega | (dsimp only; omega) | (simp <;> omega)) _) | (with_reducible refine Below.setCell ?_ (by first | omega | (dsimp only; omega) | (simp <;> omega)) _) | (with_reducible refine Below.drew ?_) | (with_reducible refine below_drewN ?_ _) | (with_reducible refine Below.trans ?_ (Below.mono (by assumption) (by first | omega | (dsimp only; omega) | (simp <;> omega)))))); done)) | ((repeat (first | (with_reducible exact Below.refl _ _) | (with_reducible refine Below.alloc ?_ (by first | omega | (dsimp only; omega) | (simp <;> omega)) _) | (with_reducible refine Below.setCell ?_ (by first | omega | (dsimp only; omega) | (simp <;> omega)) _) | (with_reducible refine Below.drew ?_) | (with_reducible refine below_drewN ?_ _) | (with_reducible refine Below.trans ?_ (Below.mono (by assumption) (by first | omega | (dsimp only; omega) | (simp <;> omega)))))); done)⟩
              simp [results, Tryz.results5, go_sem, *]
            · have hb1 : (1 : Int) ≤ (l.length : Int) := (takesN_known ht'.out).2.1
              have hb2 : (l.length : Int) ≤ 1 := (takesN_known ht'.out).2.2
              obtain ⟨x, hL⟩ := len1 (l := l.map fun x => x.v.asN) (by rw [List.length_map]; omega)
              have hn1 : l.length = 1 := by omega
              have c0 : wr.cell? ⟨gb, 0, none⟩ = some (.int .i64 x) := hcl'.out 0 x (by rw [hL]; rfl)
              have hx := hLb.out x (by rw [hL]; simp)
              have hres := Lib.hid (show callR ⟨#[65, 66, 83]⟩ l (doR ⟨#[65, 66, 83]⟩ (l.map fun x => x.v.asN)) = numL (max x (-x)) from by rw [hcr'.out, hL]; rfl)
              clear hL
              have hc1 : (l.length : Int) = 1 := by omega
              go_wp2_with (go_at_call 19; refine (r8one_ABS x hx _).mono ?_; rintro e wq ⟨rfl, hb⟩; obtain ⟨hc, hf, hz⟩ := bkeep hb (wr.heap.size) (by first | omega | (simp <;> omega)))
              try simp only [resAt_setCell] at *
              refine bodyPost_ret (v := .agg #[.int .i64 (numL (max x (-x))).t, .int .i64 (numL (max x (-x))).n, .string (numL (max x (-x))).s, .bool (numL (max x (-x))).b, .int .i64 (numL (max x (-x))).c]) ?_ rfl ⟨by rw [hres.out], by first | assumption | (go_split_ands; first | assumption | ((repeat (first | (with_reducible exact Below.refl _ _) | (with_reducible refine Below.alloc ?_ (by first | omega | (dsimp only; omega) | (simp <;> omega)) _) | (with_reducible refine Below.setCell ?_ (by first | omega | (dsimp only; omega) | (simp <;> omega)) _) | (with_reducible refine Below.drew ?_) | (with_reducible refine below_drewN ?_ _) | (with_reducible refine Below.trans ?_ (Below.mono (by assumption) (by first | omega | (dsimp only; omega) | (simp <;> omega)))))); done)) | ((repeat (first | (with_reducible exact Below.refl _ _) | (with_reducible refine Below.alloc ?_ (by first | omega | (dsimp only; omega) | (simp <;> omega)) _) | (with_reducible refine Below.setCell ?_ (by first | omega | (dsimp only; omega) | (simp <;> omega)) _) | (with_reducible refine Below.drew ?_) | (with_reducible refine below_drewN ?_ _) | (with_reducible refine Below.trans ?_ (Below.mono (by assumption) (by first | omega | (dsimp only; omega) | (simp <;> omega)))))); done)⟩
              simp [results, Tryz.results5, go_sem, *]
end Go.Proofs.YthobaffgllipfaaGreat
