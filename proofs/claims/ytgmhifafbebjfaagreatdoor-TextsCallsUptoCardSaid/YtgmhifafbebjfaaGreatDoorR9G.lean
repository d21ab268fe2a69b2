/-
  the document's texts: Call.
-/
import Derived.Test.YtgmhifafbebjfaaGreatDoorR9F
import Derived.Test.YtgmhifafbebjfaaGreatDoorR9H
import Derived.Test.YtgmhifafbebjfaaGreatDoorR8D
import Derived.Test.YtgmhifafbebjfaaGreatDoorTTak
namespace Go.Proofs.YtgmhifafbebjfaaGreatDoor
open Go.RowKit

theorem faulL_many9 (l : List AL) (h : (l.any fun x => (true == x.many)) = false) : faulL l = l.find? (fun x => decide (x.v.t = 4)) := by
  unfold faulL
  induction l with
  | nil => rfl
  | cons x l ih =>
    have h2 := List.any_eq_false.1 h
    have hx := h2 x (by simp)
    have hm : x.many = false := by cases hm : x.many; rfl; rw [hm] at hx; simp at hx
    have ih2 := ih (List.any_eq_false.2 fun y hy => h2 y (by simp [hy]))
    simp only [List.find?_cons, hm, Bool.not_false, Bool.true_and, ih2]
set_option maxRecDepth 100000 in
set_option maxHeartbeats 32000000 in
theorem r9call_any (name : ByteArray) (l : List AL) (hlen : l.length ≤ 1048576) (hsz : ∀ x ∈ l, x.v.s.size ≤ 1048576) (text : Int) (r : VL) (hF : takesT name l.length (l.any fun x => (true == x.many)) = true → FormA text name (gS (tPairs name l)) (gN (tPairs name l)) r) (w : World) (A : Option Addr) (cap : Nat) (hR : RdB w w.heap.size A 11 (l.map AL.cs)) (hin : ∀ x ∈ l, x.In w w.heap.size) :
    Calls Tryz.prog 6 #[.string name, .slice A l.length cap, .int .i64 text] w fun e w' => e = .returned (.agg #[.int .i64 ((callT name l text r)).t, .int .i64 ((callT name l text r)).n, .string ((callT name l text r)).s, .bool ((callT name l text r)).b, .int .i64 ((callT name l text r)).c]) ∧ Below w.heap.size w w' := by
  obtain ⟨i0, hi, hi0, hi1, hi2⟩ := info_parts str_info
  obtain ⟨j0, hj, hy0, hy1, hy2⟩ := info_parts tint_info
  have hR' := Lib.hid hR
  have hin' := Lib.hid hin
  have hsz' := Lib.hid hsz
  obtain ⟨V, hV0⟩ : ∃ V, callT name l text r = V := ⟨_, rfl⟩
  have hV := Lib.hid hV0
  rw [hV0]
  clear hR hin hsz hV0
  have b0 : Below w.heap.size w (w.alloc (.cells #[.int .i64 0, .int .i64 0, .string ⟨#[]⟩, .bool false, .int .i64 0] 26)) := (Below.refl _ _).alloc (Nat.le_refl _) _
  go_enter Tryz.func6, Tryz.ntmps6
  go_wp2_with fail
  refine (rargs_any l (by omega) _ A cap ((hR'.out.below b0).mono (by simp)) (fun x hx => ((hin'.out x hx).below b0).mono (by simp))).mono ?_
  rintro e w1 ⟨u, rfl, hown, hb1⟩
  have hbw : Below (w.heap.size + 1) (w.alloc (.cells #[.int .i64 0, .int .i64 0, .string ⟨#[]⟩, .bool false, .int .i64 0] 26)) w1 := hb1.mono (by simp)
  have hz1 := hbw.size
  simp only [World.size_alloc] at hz1
  have g1 : Below w.heap.size w w1 := b0.trans (hbw.mono (by omega))
  have hres1 : ResAt w1 w.heap.size 5 := ResAt.below (ResAt.new5 w _ _ _ _ _ 26) hbw (by omega)
  have hr : ∀ j v, (w.alloc (.cells #[.int .i64 0, .int .i64 0, .string ⟨#[]⟩, .bool false, .int .i64 0] 26)).cell? ⟨w.heap.size, j, none⟩ = some v → w1.cell? ⟨w.heap.size, j, none⟩ = some v := fun j v h => (hbw.cell (p := ⟨w.heap.size, j, none⟩) (by simp)).trans h
  have hs : ∀ j, w1.frozen? ⟨w.heap.size, j, none⟩ = false := fun j => (hbw.frozen (p := ⟨w.heap.size, j, none⟩) (by simp)).trans (by simp)
  have hr0 : w1.cell? ⟨w.heap.size, 0, none⟩ = some (.int .i64 0) := hr 0 _ (by simp)
  have hs0 := hs 0
  have hr1 : w1.cell? ⟨w.heap.size, 1, none⟩ = some (.int .i64 0) := hr 1 _ (by simp)
  have hs1 := hs 1
  have hr2 : w1.cell? ⟨w.heap.size, 2, none⟩ = some (.string ⟨#[]⟩) := hr 2 _ (by simp)
  have hs2 := hs 2
  have hr3 : w1.cell? ⟨w.heap.size, 3, none⟩ = some (.bool false) := hr 3 _ (by simp)
  have hs3 := hs 3
  have hr4 : w1.cell? ⟨w.heap.size, 4, none⟩ = some (.int .i64 0) := hr 4 _ (by simp)
  have hs4 := hs 4
  clear hr hs
  obtain ⟨A2, cap2, rfl, hrd⟩ := ownsRow_rd hown
  have hrd2 : RdB w1 w1.heap.size A2 1 ((l.map fun x => x.many).map fun (x : Bool) => [Value.bool x]) := by
    have e : ((l.map fun x => Value.bool x.many).map fun x => [x]) = ((l.map fun x => x.many).map fun (x : Bool) => [Value.bool x]) := by simp
    rw [← e]; exact hrd
  have hlw : w.heap.size < w1.heap.size := by omega
  clear hrd hown
  by_cases ht1 : text < 0
  · have hcr := Lib.hid (show V = errL 8 from by rw [← hV.out]; unfold callT; rw [if_pos (Or.inl ht1)])
    clear hrd2 hbw hb1
    go_wp2_with (go_at_call 20; refine (rverr9 8 _).mono ?_; rintro e wq ⟨rfl, hb⟩; obtain ⟨hc, hf, hz⟩ := bkeep hb (w1.heap.size) (by first | omega | (simp <;> omega)))
    try simp only [resAt_setCell] at *
    refine bodyPost_ret (v := .agg #[.int .i64 4, .int .i64 0, .string ⟨#[]⟩, .bool false, .int .i64 (errC 8)]) ?_ rfl ⟨by rw [hcr.out]; rfl, by first | ((repeat (first | (with_reducible exact Below.refl _ _) | (with_reducible refine Below.alloc ?_ (by first | omega | (dsimp only; omega) | (simp <;> omega)) _) | (with_reducible refine Below.setCell ?_ (by first | omega | (dsimp only; omega) | (simp <;> omega)) _) | (with_reducible refine Below.drew ?_) | (with_reducible refine below_drewN ?_ _) | (with_reducible refine Below.trans ?_ (Below.mono (by assumption) (by first | omega | (dsimp only; omega) | (simp <;> omega)))))); done) | assumption | (go_split_ands; assumption)⟩
    simp [results, Tryz.results6, go_sem, *]
  by_cases ht2 : 1024 < text
  · have hcr := Lib.hid (show V = errL 8 from by rw [← hV.out]; unfold callT; rw [if_pos (Or.inr ht2)])
    clear hrd2 hbw hb1
    go_wp2_with (go_at_call 20; refine (rverr9 8 _).mono ?_; rintro e wq ⟨rfl, hb⟩; obtain ⟨hc, hf, hz⟩ := bkeep hb (w1.heap.size) (by first | omega | (simp <;> omega)))
    try simp only [resAt_setCell] at *
    refine bodyPost_ret (v := .agg #[.int .i64 4, .int .i64 0, .string ⟨#[]⟩, .bool false, .int .i64 (errC 8)]) ?_ rfl ⟨by rw [hcr.out]; rfl, by first | ((repeat (first | (with_reducible exact Below.refl _ _) | (with_reducible refine Below.alloc ?_ (by first | omega | (dsimp only; omega) | (simp <;> omega)) _) | (with_reducible refine Below.setCell ?_ (by first | omega | (dsimp only; omega) | (simp <;> omega)) _) | (with_reducible refine Below.drew ?_) | (with_reducible refine below_drewN ?_ _) | (with_reducible refine Below.trans ?_ (Below.mono (by assumption) (by first | omega | (dsimp only; omega) | (simp <;> omega)))))); done) | assumption | (go_split_ands; assumption)⟩
    simp [results, Tryz.results6, go_sem, *]
  cases hall : l.all argMay
  · have hcr := Lib.hid (show V = errL 8 from by rw [← hV.out]; unfold callT; rw [if_neg (by omega), if_pos hall])
    clear hrd2 hbw hb1
    go_wp2_with (go_at_call 20; refine (rverr9 8 _).mono ?_; rintro e wq ⟨rfl, hb⟩; obtain ⟨hc, hf, hz⟩ := bkeep hb (w1.heap.size) (by first | omega | (simp <;> omega)))
    try simp only [resAt_setCell] at *
    refine bodyPost_ret (v := .agg #[.int .i64 4, .int .i64 0, .string ⟨#[]⟩, .bool false, .int .i64 (errC 8)]) ?_ rfl ⟨by rw [hcr.out]; rfl, by first | ((repeat (first | (with_reducible exact Below.refl _ _) | (with_reducible refine Below.alloc ?_ (by first | omega | (dsimp only; omega) | (simp <;> omega)) _) | (with_reducible refine Below.setCell ?_ (by first | omega | (dsimp only; omega) | (simp <;> omega)) _) | (with_reducible refine Below.drew ?_) | (with_reducible refine below_drewN ?_ _) | (with_reducible refine Below.trans ?_ (Below.mono (by assumption) (by first | omega | (dsimp only; omega) | (simp <;> omega)))))); done) | assumption | (go_split_ands; assumption)⟩
    simp [results, Tryz.results6, go_sem, *]
  · have hall' := Lib.hid hall
    cases ht : takesT name l.length (l.any fun x => (true == x.many))
    · have CT := rttakes_any name (l.map fun x => x.many) (by simp; omega) false (by rw [List.length_map, List.any_map]; exact ht) w1 A2 cap2 hrd2
      rw [List.length_map] at CT
      have CT' := Lib.hid CT
      have hcr := Lib.hid (show V = errL 8 from by rw [← hV.out]; unfold callT; rw [if_neg (by omega), if_neg (by rw [hall'.out]; simp), if_pos ht])
      clear CT ht hrd2 hbw hb1
      go_wp2_with fail
      refine CT'.out.mono ?_
      rintro e w' ⟨rfl, rfl⟩
      go_wp2_with (go_at_call 20; refine (rverr9 8 _).mono ?_; rintro e wq ⟨rfl, hb⟩; obtain ⟨hc, hf, hz⟩ := bkeep hb (w1.heap.size) (by first | omega | (simp <;> omega)))
      try simp only [resAt_setCell] at *
      refine bodyPost_ret (v := .agg #[.int .i64 4, .int .i64 0, .string ⟨#[]⟩, .bool false, .int .i64 (errC 8)]) ?_ rfl ⟨by rw [hcr.out]; rfl, by first | ((repeat (first | (with_reducible exact Below.refl _ _) | (with_reducible refine Below.alloc ?_ (by first | omega | (dsimp only; omega) | (simp <;> omega)) _) | (with_reducible refine Below.setCell ?_ (by first | omega | (dsimp only; omega) | (simp <;> omega)) _) | (with_reducible refine Below.drew ?_) | (with_reducible refine below_drewN ?_ _) | (with_reducible refine Below.trans ?_ (Below.mono (by assumption) (by first | omega | (dsimp only; omega) | (simp <;> omega)))))); done) | assumption | (go_split_ands; assumption)⟩
      simp [results, Tryz.results6, go_sem, *]
    · have CT := rttakes_any name (l.map fun x => x.many) (by simp; omega) true (by rw [List.length_map, List.any_map]; exact ht) w1 A2 cap2 hrd2
      rw [List.length_map] at CT
      have CT' := Lib.hid CT
      have hcr := Lib.hid (show V = callTS name l r from by rw [← hV.out]; unfold callT; rw [if_neg (by omega), if_neg (by rw [hall'.out]; simp), if_neg (by rw [ht]; simp)])
      have hform := Lib.hid (hF ht)
      have ht' := Lib.hid ht
      have hmf : (l.any fun x => (true == x.many)) = false := (takesT_len ht).2
      have hfm := faulL_many9 l hmf
      have CFa := rfaulty_any l (by omega) w1 A cap ((hR'.out.below g1).mono g1.size)
      clear CT ht hrd2 hb1 hF hmf
      cases hfl : faulL l with
      | some x =>
        have hcs := Lib.hid (show V = x.v from by rw [hcr.out]; unfold callTS; rw [← hfm, hfl])
        have hfv : faulV l = x.v := by unfold faulV; rw [hfl]
        rw [hfv, hfl] at CFa
        simp only [Option.isSome_some] at CFa
        have CFa' := Lib.hid CFa
        clear CFa hfm hfv hfl hbw
        go_wp2_with fail
        refine CT'.out.mono ?_
        rintro e w' ⟨rfl, rfl⟩
        go_wp2_with fail
        refine CFa'.out.mono ?_
        rintro e w2 ⟨rfl, hb2⟩
        obtain ⟨hc, hf, hz⟩ := bkeep hb2 w1.heap.size (by simp)
        have hlw2 : w.heap.size < w2.heap.size := by omega
        have hne2 : w.heap.size ≠ w2.heap.size := by omega
        go_wp2
        refine bodyPost_ret (v := .agg #[.int .i64 (x.v).t, .int .i64 (x.v).n, .string (x.v).s, .bool (x.v).b, .int .i64 (x.v).c]) ?_ rfl ⟨by rw [hcs.out], by (repeat (first | (with_reducible exact Below.refl _ _) | (with_reducible refine Below.alloc ?_ (by first | omega | (dsimp only; omega) | (simp <;> omega)) _) | (with_reducible refine Below.setCell ?_ (by first | omega | (dsimp only; omega) | (simp <;> omega)) _) | (with_reducible refine Below.drew ?_) | (with_reducible refine below_drewN ?_ _) | (with_reducible refine Below.trans ?_ (Below.mono (by assumption) (by first | omega | (dsimp only; omega) | (simp <;> omega))))))⟩
        simp [results, Tryz.results6, go_sem, *]
      | none =>
        have hcs := Lib.hid (show V = (match gE (tPairs name l) with | some c => errL c | none => r) from by rw [hcr.out]; unfold callTS; rw [← hfm]; simp only [hfl]; rfl)
        have hsg := Lib.hid (tsingle ht'.out hall'.out (fun x hx h4 => by
          rw [hfm, List.find?_eq_none] at hfl
          exact hfl x hx (by simpa using h4)))
        have hfv : faulV l = v0 := by unfold faulV; rw [hfl]
        rw [hfv, hfl] at CFa
        simp only [Option.isSome_none] at CFa
        have CFa' := Lib.hid CFa
        have hkl9 := (takesT_len ht'.out).1
        clear CFa hfm hfv hfl hr0 hr1 hr2 hr3 hr4 hs0 hs1 hs2 hs3 hs4 hres1 hcr hall
        go_wp2_with fail
        refine CT'.out.mono ?_
        rintro e w' ⟨rfl, rfl⟩
        go_wp2_with fail
        refine CFa'.out.mono ?_
        rintro e w2 ⟨rfl, hb2⟩
        have hbw2 : Below (w.heap.size + 1) (w.alloc (.cells #[.int .i64 0, .int .i64 0, .string ⟨#[]⟩, .bool false, .int .i64 0] 26)) w2 := hbw.trans (hb2.mono (by omega))
        have hz2 := hb2.size
        clear hbw hb2 g1
        go_wp2_with fail
        go_at_call 22
        refine (twants_any name _).mono ?_
        rintro e w' ⟨rfl, rfl⟩
        go_wp2
        go_loopw [14, 15, 16] (fun v u i wr => ∃ k : Nat, k ≤ l.length ∧ i = .int .i64 (k : Int) ∧ Hid (gE ((tPairs name l).take k) = none) ∧ Hid (wr.ownsRow (w.heap.size + 1) 9 1 v (gS ((tPairs name l).take k)).length ((gS ((tPairs name l).take k)).map fun s => Value.string s)) ∧ Hid (wr.ownsRow (w.heap.size + 1) 3 1 u (gN ((tPairs name l).take k)).length ((gN ((tPairs name l).take k)).map fun n => Value.int .i64 n)) ∧ Below (w.heap.size + 1) (w.alloc (.cells #[.int .i64 0, .int .i64 0, .string ⟨#[]⟩, .bool false, .int .i64 0] 26)) wr) (fun _ _ i _ => l.length - (intOf i).toNat)
        case atStart => exact ⟨0, Nat.zero_le _, rfl, Lib.hid (by simp [gE]), Lib.hid (World.ownsRow_nil _ _ _ _), Lib.hid (World.ownsRow_nil _ _ _ _), hbw2.alloc (by first | omega | (simp; omega)) _⟩
        case round =>
          obtain ⟨k, hk, rfl, hno, hownS, hownN, hbr⟩ := hrel
          have hzr := hbr.size
          simp only [World.size_alloc] at hzr
          have g0 : Below w.heap.size w wr := b0.trans (hbr.mono (by omega))
          have hr0 : wr.cell? ⟨w.heap.size, 0, none⟩ = some (.int .i64 0) := by rw [hbr.cell (by dsimp only; omega)]; simp
          have hs0 : wr.frozen? ⟨w.heap.size, 0, none⟩ = false := by rw [hbr.frozen (by dsimp only; omega)]; simp
          have hr1 : wr.cell? ⟨w.heap.size, 1, none⟩ = some (.int .i64 0) := by rw [hbr.cell (by dsimp only; omega)]; simp
          have hs1 : wr.frozen? ⟨w.heap.size, 1, none⟩ = false := by rw [hbr.frozen (by dsimp only; omega)]; simp
          have hr2 : wr.cell? ⟨w.heap.size, 2, none⟩ = some (.string ⟨#[]⟩) := by rw [hbr.cell (by dsimp only; omega)]; simp
          have hs2 : wr.frozen? ⟨w.heap.size, 2, none⟩ = false := by rw [hbr.frozen (by dsimp only; omega)]; simp
          have hr3 : wr.cell? ⟨w.heap.size, 3, none⟩ = some (.bool false) := by rw [hbr.cell (by dsimp only; omega)]; simp
          have hs3 : wr.frozen? ⟨w.heap.size, 3, none⟩ = false := by rw [hbr.frozen (by dsimp only; omega)]; simp
          have hr4 : wr.cell? ⟨w.heap.size, 4, none⟩ = some (.int .i64 0) := by rw [hbr.cell (by dsimp only; omega)]; simp
          have hs4 : wr.frozen? ⟨w.heap.size, 4, none⟩ = false := by rw [hbr.frozen (by dsimp only; omega)]; simp
          by_cases hlt : k < l.length
          · obtain ⟨x, hx⟩ : ∃ x, l[k]? = some x := ⟨_, List.getElem?_eq_getElem hlt⟩
            have hxm := List.mem_of_getElem? hx
            obtain ⟨ab, ao, hA2, hab, hcell⟩ := (hR'.out.below g0) k x.cs (by rw [List.getElem?_map, hx]; rfl)
            obtain rfl : A = some ⟨ab, ao, none⟩ := hA2
            have hc0 : wr.cell? ⟨ab, ao + k * 11, none⟩ = some (.bool x.many) := hcell 0 _ rfl
            have hc1 : wr.cell? ⟨ab, ao + k * 11 + 1, none⟩ = some (.int .i64 x.v.t) := hcell 1 _ rfl
            have hc2 : wr.cell? ⟨ab, ao + k * 11 + 2, none⟩ = some (.int .i64 x.v.n) := hcell 2 _ rfl
            have hc3 : wr.cell? ⟨ab, ao + k * 11 + 3, none⟩ = some (.string x.v.s) := hcell 3 _ rfl
            have hc4 : wr.cell? ⟨ab, ao + k * 11 + 4, none⟩ = some (.bool x.v.b) := hcell 4 _ rfl
            have hc5 : wr.cell? ⟨ab, ao + k * 11 + 5, none⟩ = some (.int .i64 x.v.c) := hcell 5 _ rfl
            have hc6 : wr.cell? ⟨ab, ao + k * 11 + 6, none⟩ = some (.int .i64 x.t) := hcell 6 _ rfl
            have hc7 : wr.cell? ⟨ab, ao + k * 11 + 7, none⟩ = some (.int .i64 x.l) := hcell 7 _ rfl
            have hc8 : wr.cell? ⟨ab, ao + k * 11 + 8, none⟩ = some (.int .i64 x.b) := hcell 8 _ rfl
            have hc9 : wr.cell? ⟨ab, ao + k * 11 + 9, none⟩ = some (.int .i64 x.r) := hcell 9 _ rfl
            have hc10 : wr.cell? ⟨ab, ao + k * 11 + 10, none⟩ = some (.slice x.A x.es.length x.cap) := hcell 10 _ rfl
            have hin : x.In wr w.heap.size := (hin'.out x hxm).below g0
            have habr : ab < wr.heap.size := by omega
            have hkl : (k : Int) < (l.length : Int) := by omega
            have hne : ab ≠ wr.heap.size := by omega
            have hne2 : w.heap.size ≠ wr.heap.size := by omega
            have hlr : w.heap.size < wr.heap.size := by omega
            have hlr2 : w.heap.size ≤ wr.heap.size := by omega
            have hlr3 : w.heap.size < wr.heap.size + 1 := by omega
            have hlr4 : ab ≤ wr.heap.size := by omega
            have hkd : k < (tKd name).size := by omega
            have hkd2 : (k : Int) < ((tKd name).size : Int) := by omega
            have hk0 : (0 : Int) ≤ (k : Int) := by omega
            obtain ⟨c, hc⟩ : ∃ c, (tKd name)[k] = c := ⟨_, rfl⟩
            have hcn : ((tKd name)[k]'hkd).toNat = c.toNat := by rw [hc]
            have hwk : IntKind.i64.wrap ((k : Int) + 1) = (k : Int) + 1 := IntWalk.i64_in _ (by omega)
            have htk := Lib.hid (show (tPairs name l).take (k + 1) = (tPairs name l).take k ++ [(c, x)] by rw [tPairs_take name l k hkd x hx, hc])
            have hsplit := Lib.hid (show tPairs name l = (tPairs name l).take (k + 1) ++ (tPairs name l).drop (k + 1) from (List.take_append_drop _ _).symm)
            have hx1 := hsg.out x hxm
            have hlS : (gS ((tPairs name l).take k)).length ≤ 1048576 := Nat.le_trans (gS_len _) (by rw [List.length_take]; omega)
            have hlN : (gN ((tPairs name l).take k)).length ≤ 1048576 := Nat.le_trans (gN_len _) (by rw [List.length_take]; omega)
            have hokx := hin.1
            obtain ⟨nn, hnn⟩ : ∃ nn, x.v.asN = nn := ⟨_, rfl⟩
            obtain ⟨cc, hcc⟩ : ∃ cc, x.v.asC = cc := ⟨_, rfl⟩
            obtain ⟨tt, htt⟩ : ∃ tt, x.v.asT = tt := ⟨_, rfl⟩
            have CN0 := rasnum_any x.v hokx
            have CA0 := rastext_any x.v hokx hx1.1 hx1.2
            have hnr := asN_in x.v hokx
            rw [hnn] at hnr
            simp only [hnn, hcc] at CN0
            simp only [htt] at CA0
            have CN := Lib.hid CN0
            have CA := Lib.hid CA0
            have hnn' := Lib.hid hnn
            have hcc' := Lib.hid hcc
            have htt' := Lib.hid htt
            clear hx hcell hxm CN0 CA0 hnn hcc htt hc hx1 hin
            have hco : c.toNat = 115 ↔ c = 115 := ⟨fun h => UInt8.toNat_inj.1 h, fun h => by rw [h]; rfl⟩
            by_cases hc115 : c.toNat = 115
            · have hce := Lib.hid (hco.1 hc115)
              clear hco
              go_wp2_with fail
              go_at_call 23
              refine (CA.out _).mono ?_
              rintro e w3 ⟨rfl, hb3⟩
              have hS3 := ownsRow_below hownS.out hb3
              have hN3 := ownsRow_below hownN.out hb3
              have g3 : Below (w.heap.size + 1) (w.alloc (.cells #[.int .i64 0, .int .i64 0, .string ⟨#[]⟩, .bool false, .int .i64 0] 26)) w3 := hbr.trans (hb3.mono (by omega))
              have hz3 := g3.size
              simp only [World.size_alloc] at hz3
              clear hc115
              go_wp2_with (at_builtin; refine wpList_append_own_at _ rfl _ _ 44 rfl (w.heap.size + 1) 9 i0 (.string ⟨#[]⟩) 1 16 Tryz.underlying44 hi hi0 hi1 hi2 rfl (by decide) _ _ _ rfl (hS3.alloc _) ⟨w3.heap.size, 0, none⟩ 1 1 [.string tt] rfl rfl (cell_one_new _ _ _) (by simp [Value.oneCell']) (by unfold maxLen; omega) (by omega) (by simp; omega) ?_; intro v2 w4 hown4 hgrow4 hnil4 hloc4)
              go_roundw
              case rel =>
                refine ⟨k + 1, by omega, by go_num, Lib.hid ?_, Lib.hid ?_, Lib.hid ?_, ?_⟩
                · rw [htk.out, gE_snoc _ _ hno.out, if_pos hce.out]
                · rw [htk.out, gS_snoc, if_pos hce.out, htt'.out, List.length_append, List.map_append]; exact hown4
                · rw [htk.out, gN_snoc, if_pos hce.out, List.append_nil]
                  exact (hN3.alloc _).kept hgrow4 (rows_ne hS3 hN3 (by decide))
                · refine (g3.alloc (by omega) _).grown hgrow4 (by simp; omega) (fun j hj => ?_)
                  exact (hS3.lt j hj).1
              case measure => simp [intOf]; omega
            · have hce := Lib.hid (show ¬ c = 115 from fun h => hc115 (hco.2 h))
              have hcb : ((c.toNat : Int) == 115) = false := by simp; omega
              clear hco hc115
              have heo : Hid (∀ e, eOf x = some e → V = errL e) := Lib.hid fun e he => by
                have h9 : gE (tPairs name l) = some e := by
                  rw [hsplit.out]
                  exact gE_some _ _ _ (by rw [htk.out, gE_snoc _ _ hno.out, if_neg hce.out]; exact he)
                rw [hcs.out, h9]
              by_cases hc0 : cc = 0
              · subst hc0
                by_cases hm : nn.tmod 10000 = 0
                · have hmb : (nn.tmod 10000 != 0) = false := by simp [hm]
                  have hwh := Lib.hid (show eOf x = none by unfold eOf; rw [hcc'.out, hnn'.out, if_neg (by simp), if_pos (by unfold wholeB; simp [hm]; omega)])
                  have hwv := Lib.hid (show wholeV x.v.asN = nn.tdiv 10000 by rw [hnn'.out]; unfold wholeV; rw [if_pos ⟨by omega, hm⟩])
                  have hqr : -922337203685477 ≤ nn.tdiv 10000 ∧ nn.tdiv 10000 ≤ 922337203685477 := by
                    have e := Int.mul_tdiv_add_tmod nn 10000
                    rw [hm] at e
                    omega
                  have hqw : IntKind.i64.wrap (nn.tdiv 10000) = nn.tdiv 10000 := IntWalk.i64_in _ (by omega)
                  clear hm
                  go_wp2_with fail
                  go_at_call 24
                  refine (CN.out _).mono ?_
                  rintro e w3 ⟨rfl, hb3⟩
                  have hS3 := ownsRow_below hownS.out hb3
                  have hN3 := ownsRow_below hownN.out hb3
                  have g3 : Below (w.heap.size + 1) (w.alloc (.cells #[.int .i64 0, .int .i64 0, .string ⟨#[]⟩, .bool false, .int .i64 0] 26)) w3 := hbr.trans (hb3.mono (by omega))
                  have hz3 := g3.size
                  simp only [World.size_alloc] at hz3
                  go_wp2_with (at_builtin; refine wpList_append_own_at _ rfl _ _ 45 rfl (w.heap.size + 1) 3 j0 (.int .i64 0) 1 8 Tryz.underlying45 hj hy0 hy1 hy2 rfl (by decide) _ _ _ rfl (hN3.alloc _) ⟨w3.heap.size, 0, none⟩ 1 1 [.int .i64 (nn.tdiv 10000)] rfl rfl (cell_one_new _ _ _) (by simp [Value.oneCell']) (by unfold maxLen; omega) (by omega) (by simp; omega) ?_; intro v2 w4 hown4 hgrow4 hnil4 hloc4)
                  go_roundw
                  case rel =>
                    refine ⟨k + 1, by omega, by go_num, Lib.hid ?_, Lib.hid ?_, Lib.hid ?_, ?_⟩
                    · rw [htk.out, gE_snoc _ _ hno.out, if_neg hce.out]; exact hwh.out
                    · rw [htk.out, gS_snoc, if_neg hce.out, List.append_nil]
                      exact (hS3.alloc _).kept hgrow4 (rows_ne hN3 hS3 (by decide))
                    · rw [htk.out, gN_snoc, if_neg hce.out, hwv.out, List.length_append, List.map_append]; exact hown4
                    · refine (g3.alloc (by omega) _).grown hgrow4 (by simp; omega) (fun j hj => ?_)
                      exact (hN3.lt j hj).1
                  case measure => simp [intOf]; omega
                · have hmb : (nn.tmod 10000 != 0) = true := by simp [hm]
                  have hve := Lib.hid (heo.out 8 (by unfold eOf; rw [hcc'.out, hnn'.out, if_neg (by simp), if_neg (by unfold wholeB; simp [hm])]))
                  clear hm heo
                  go_wp2_with fail
                  go_at_call 24
                  refine (CN.out _).mono ?_
                  rintro e w3 ⟨rfl, hb3⟩
                  obtain ⟨hc, hf, hz⟩ := bkeep hb3 wr.heap.size (by simp)
                  go_wp2_with (go_at_call 20; refine (rverr9 8 _).mono ?_; rintro e wq ⟨rfl, hb⟩; obtain ⟨hc, hf, hz⟩ := bkeep hb (wr.heap.size) (by first | omega | (simp <;> omega)))
                  try simp only [resAt_setCell] at *
                  refine bodyPost_ret (v := .agg #[.int .i64 4, .int .i64 0, .string ⟨#[]⟩, .bool false, .int .i64 (errC 8)]) ?_ rfl ⟨by rw [hve.out]; rfl, by first | ((repeat (first | (with_reducible exact Below.refl _ _) | (with_reducible refine Below.alloc ?_ (by first | omega | (dsimp only; omega) | (simp <;> omega)) _) | (with_reducible refine Below.setCell ?_ (by first | omega | (dsimp only; omega) | (simp <;> omega)) _) | (with_reducible refine Below.drew ?_) | (with_reducible refine below_drewN ?_ _) | (with_reducible refine Below.trans ?_ (Below.mono (by assumption) (by first | omega | (dsimp only; omega) | (simp <;> omega)))))); done) | assumption | (go_split_ands; assumption)⟩
                  simp [results, Tryz.results6, go_sem, *]
              · have hve := Lib.hid (heo.out cc (by unfold eOf; rw [hcc'.out, if_pos hc0]))
                have hcb2 : (cc != 0) = true := by simpa using hc0
                have hcb3 : (cc == 0) = false := by simpa using hc0
                clear heo hc0
                go_wp2_with fail
                go_at_call 24
                refine (CN.out _).mono ?_
                rintro e w3 ⟨rfl, hb3⟩
                obtain ⟨hc, hf, hz⟩ := bkeep hb3 wr.heap.size (by simp)
                go_wp2_with (go_at_call 20; refine (rverr9 cc _).mono ?_; rintro e wq ⟨rfl, hb⟩; obtain ⟨hc, hf, hz⟩ := bkeep hb (wr.heap.size) (by first | omega | (simp <;> omega)))
                try simp only [resAt_setCell] at *
                refine bodyPost_ret (v := .agg #[.int .i64 4, .int .i64 0, .string ⟨#[]⟩, .bool false, .int .i64 (errC cc)]) ?_ rfl ⟨by rw [hve.out]; rfl, by first | ((repeat (first | (with_reducible exact Below.refl _ _) | (with_reducible refine Below.alloc ?_ (by first | omega | (dsimp only; omega) | (simp <;> omega)) _) | (with_reducible refine Below.setCell ?_ (by first | omega | (dsimp only; omega) | (simp <;> omega)) _) | (with_reducible refine Below.drew ?_) | (with_reducible refine below_drewN ?_ _) | (with_reducible refine Below.trans ?_ (Below.mono (by assumption) (by first | omega | (dsimp only; omega) | (simp <;> omega)))))); done) | assumption | (go_split_ands; assumption)⟩
                simp [results, Tryz.results6, go_sem, *]
          · obtain rfl : k = l.length := by omega
            have hta : (tPairs name l).take l.length = tPairs name l := tPairs_all name l hkl9
            rw [hta] at hno hownS hownN
            have hVr := Lib.hid (show V = r from by rw [hcs.out, hno.out])
            have hSz : ∀ s ∈ gS (tPairs name l), s.size ≤ 1048576 := gS_in _ fun p hp => asT_size (hin'.out p.2 (pairs_mem hp)).1 (hsz'.out _ (pairs_mem hp))
            have hNz : ∀ n ∈ gN (tPairs name l), -922337203685477 ≤ n ∧ n ≤ 922337203685477 := gN_in _ fun p hp => whole_in9 (by have := asN_in p.2.v (hin'.out p.2 (pairs_mem hp)).1; omega)
            have hSl : (gS (tPairs name l)).length ≤ 1000000 := Nat.le_trans (gS_len _) (by rw [← hta, List.length_take]; have := tKd_le name; omega)
            have hrS : RdStr wr u14 (gS (tPairs name l)) := by
              obtain ⟨A9, c9, e9, h9⟩ := ownsRow_rd hownS.out
              exact ⟨A9, c9, e9, by rw [List.map_map] at h9; exact h9⟩
            have hrN : RdInt wr u15 (gN (tPairs name l)) := by
              obtain ⟨A9, c9, e9, h9⟩ := ownsRow_rd hownN.out
              exact ⟨A9, c9, e9, by rw [List.map_map] at h9; exact h9⟩
            have hfo := hform.out
            have hres0 : ResAt wr w.heap.size 5 := ResAt.below (ResAt.new5 w _ _ _ _ _ 26) hbr (by omega)
            have hlr : w.heap.size < wr.heap.size := by omega
            have hlr2 : w.heap.size ≤ wr.heap.size := by omega
            have hzz : w.heap.size + 1 ≤ wr.heap.size := by omega
            have h9 : 0 ≤ text ∧ text ≤ 1024 := by omega
            clear hta hno hcs hsg hform ht' hall' hkl9 hin' hsz' hR' hV CT' CFa' hbw2 hz1 hz2 hr0 hr1 hr2 hr3 hr4 hs0 hs1 hs2 hs3 hs4
            generalize gS (tPairs name l) = S at *
            generalize gN (tPairs name l) = L at *
            cases hfo with
            | len s =>
              have z_s := hSz s (by simp)
              obtain ⟨AS, cS, rfl, hRS⟩ := hrS
              obtain ⟨sb, so, hA9, hsb, _⟩ := hRS 0 [.string s] rfl
              subst hA9
              have hs0 : wr.cell? ⟨sb, so, none⟩ = some (.string s) := by
                obtain ⟨b9, o9, e9, _, h9⟩ := hRS 0 [.string s] rfl
                injection e9 with e9
                injection e9 with e1 e2 _
                subst e1 e2
                simpa using h9 0 _ rfl
              have hsn : sb ≠ w.heap.size := by have := (hownS.out.lt sb rfl).1; omega
              go_wp2_with (go_at_call 31; refine (r9one_LEN s z_s text _).mono ?_; rintro e wq ⟨rfl, hb⟩; obtain ⟨hc, hf, hz⟩ := bkeep hb (wr.heap.size) (by first | omega | (simp <;> omega)))
              try simp only [resAt_setCell] at *
              refine bodyPost_ret (v := .agg #[.int .i64 ((numL ((s.size : Int) * 10000))).t, .int .i64 ((numL ((s.size : Int) * 10000))).n, .string ((numL ((s.size : Int) * 10000))).s, .bool ((numL ((s.size : Int) * 10000))).b, .int .i64 ((numL ((s.size : Int) * 10000))).c]) ?_ rfl ⟨by rw [hVr.out], by first | ((repeat (first | (with_reducible exact Below.refl _ _) | (with_reducible refine Below.alloc ?_ (by first | omega | (dsimp only; omega) | (simp <;> omega)) _) | (with_reducible refine Below.setCell ?_ (by first | omega | (dsimp only; omega) | (simp <;> omega)) _) | (with_reducible refine Below.drew ?_) | (with_reducible refine below_drewN ?_ _) | (with_reducible refine Below.trans ?_ (Below.mono (by assumption) (by first | omega | (dsimp only; omega) | (simp <;> omega)))))); done) | assumption | (go_split_ands; assumption)⟩
              simp [results, Tryz.results6, go_sem, *]
            | upper s =>
              have z_s := hSz s (by simp)
              obtain ⟨AS, cS, rfl, hRS⟩ := hrS
              obtain ⟨sb, so, hA9, hsb, _⟩ := hRS 0 [.string s] rfl
              subst hA9
              have hs0 : wr.cell? ⟨sb, so, none⟩ = some (.string s) := by
                obtain ⟨b9, o9, e9, _, h9⟩ := hRS 0 [.string s] rfl
                injection e9 with e9
                injection e9 with e1 e2 _
                subst e1 e2
                simpa using h9 0 _ rfl
              have hsn : sb ≠ w.heap.size := by have := (hownS.out.lt sb rfl).1; omega
              go_wp2_with (go_at_call 31; refine (r9one_UPPER s z_s text _).mono ?_; rintro e wq ⟨rfl, hb⟩; obtain ⟨hc, hf, hz⟩ := bkeep hb (wr.heap.size) (by first | omega | (simp <;> omega)))
              try simp only [resAt_setCell] at *
              refine bodyPost_ret (v := .agg #[.int .i64 ((toldT text (caseS 97 65 s))).t, .int .i64 ((toldT text (caseS 97 65 s))).n, .string ((toldT text (caseS 97 65 s))).s, .bool ((toldT text (caseS 97 65 s))).b, .int .i64 ((toldT text (caseS 97 65 s))).c]) ?_ rfl ⟨by rw [hVr.out], by first | ((repeat (first | (with_reducible exact Below.refl _ _) | (with_reducible refine Below.alloc ?_ (by first | omega | (dsimp only; omega) | (simp <;> omega)) _) | (with_reducible refine Below.setCell ?_ (by first | omega | (dsimp only; omega) | (simp <;> omega)) _) | (with_reducible refine Below.drew ?_) | (with_reducible refine below_drewN ?_ _) | (with_reducible refine Below.trans ?_ (Below.mono (by assumption) (by first | omega | (dsimp only; omega) | (simp <;> omega)))))); done) | assumption | (go_split_ands; assumption)⟩
              simp [results, Tryz.results6, go_sem, *]
            | lower s =>
              have z_s := hSz s (by simp)
              obtain ⟨AS, cS, rfl, hRS⟩ := hrS
              obtain ⟨sb, so, hA9, hsb, _⟩ := hRS 0 [.string s] rfl
              subst hA9
              have hs0 : wr.cell? ⟨sb, so, none⟩ = some (.string s) := by
                obtain ⟨b9, o9, e9, _, h9⟩ := hRS 0 [.string s] rfl
                injection e9 with e9
                injection e9 with e1 e2 _
                subst e1 e2
                simpa using h9 0 _ rfl
              have hsn : sb ≠ w.heap.size := by have := (hownS.out.lt sb rfl).1; omega
              go_wp2_with (go_at_call 31; refine (r9one_LOWER s z_s text _).mono ?_; rintro e wq ⟨rfl, hb⟩; obtain ⟨hc, hf, hz⟩ := bkeep hb (wr.heap.size) (by first | omega | (simp <;> omega)))
              try simp only [resAt_setCell] at *
              refine bodyPost_ret (v := .agg #[.int .i64 ((toldT text (caseS 65 97 s))).t, .int .i64 ((toldT text (caseS 65 97 s))).n, .string ((toldT text (caseS 65 97 s))).s, .bool ((toldT text (caseS 65 97 s))).b, .int .i64 ((toldT text (caseS 65 97 s))).c]) ?_ rfl ⟨by rw [hVr.out], by first | ((repeat (first | (with_reducible exact Below.refl _ _) | (with_reducible refine Below.alloc ?_ (by first | omega | (dsimp only; omega) | (simp <;> omega)) _) | (with_reducible refine Below.setCell ?_ (by first | omega | (dsimp only; omega) | (simp <;> omega)) _) | (with_reducible refine Below.drew ?_) | (with_reducible refine below_drewN ?_ _) | (with_reducible refine Below.trans ?_ (Below.mono (by assumption) (by first | omega | (dsimp only; omega) | (simp <;> omega)))))); done) | assumption | (go_split_ands; assumption)⟩
              simp [results, Tryz.results6, go_sem, *]
            | trim s =>
              have z_s := hSz s (by simp)
              obtain ⟨AS, cS, rfl, hRS⟩ := hrS
              obtain ⟨sb, so, hA9, hsb, _⟩ := hRS 0 [.string s] rfl
              subst hA9
              have hs0 : wr.cell? ⟨sb, so, none⟩ = some (.string s) := by
                obtain ⟨b9, o9, e9, _, h9⟩ := hRS 0 [.string s] rfl
                injection e9 with e9
                injection e9 with e1 e2 _
                subst e1 e2
                simpa using h9 0 _ rfl
              have hsn : sb ≠ w.heap.size := by have := (hownS.out.lt sb rfl).1; omega
              go_wp2_with (go_at_call 31; refine (r9one_TRIM s z_s text _).mono ?_; rintro e wq ⟨rfl, hb⟩; obtain ⟨hc, hf, hz⟩ := bkeep hb (wr.heap.size) (by first | omega | (simp <;> omega)))
              try simp only [resAt_setCell] at *
              refine bodyPost_ret (v := .agg #[.int .i64 ((toldT text (trimS s))).t, .int .i64 ((toldT text (trimS s))).n, .string ((toldT text (trimS s))).s, .bool ((toldT text (trimS s))).b, .int .i64 ((toldT text (trimS s))).c]) ?_ rfl ⟨by rw [hVr.out], by first | ((repeat (first | (with_reducible exact Below.refl _ _) | (with_reducible refine Below.alloc ?_ (by first | omega | (dsimp only; omega) | (simp <;> omega)) _) | (with_reducible refine Below.setCell ?_ (by first | omega | (dsimp only; omega) | (simp <;> omega)) _) | (with_reducible refine Below.drew ?_) | (with_reducible refine below_drewN ?_ _) | (with_reducible refine Below.trans ?_ (Below.mono (by assumption) (by first | omega | (dsimp only; omega) | (simp <;> omega)))))); done) | assumption | (go_split_ands; assumption)⟩
              simp [results, Tryz.results6, go_sem, *]
            | ord s =>
              have z_s := hSz s (by simp)
              obtain ⟨AS, cS, rfl, hRS⟩ := hrS
              obtain ⟨sb, so, hA9, hsb, _⟩ := hRS 0 [.string s] rfl
              subst hA9
              have hs0 : wr.cell? ⟨sb, so, none⟩ = some (.string s) := by
                obtain ⟨b9, o9, e9, _, h9⟩ := hRS 0 [.string s] rfl
                injection e9 with e9
                injection e9 with e1 e2 _
                subst e1 e2
                simpa using h9 0 _ rfl
              have hsn : sb ≠ w.heap.size := by have := (hownS.out.lt sb rfl).1; omega
              go_wp2_with (go_at_call 31; refine (r9one_ORD s text _).mono ?_; rintro e wq ⟨rfl, hb⟩; obtain ⟨hc, hf, hz⟩ := bkeep hb (wr.heap.size) (by first | omega | (simp <;> omega)))
              try simp only [resAt_setCell] at *
              refine bodyPost_ret (v := .agg #[.int .i64 ((ordT s)).t, .int .i64 ((ordT s)).n, .string ((ordT s)).s, .bool ((ordT s)).b, .int .i64 ((ordT s)).c]) ?_ rfl ⟨by rw [hVr.out], by first | ((repeat (first | (with_reducible exact Below.refl _ _) | (with_reducible refine Below.alloc ?_ (by first | omega | (dsimp only; omega) | (simp <;> omega)) _) | (with_reducible refine Below.setCell ?_ (by first | omega | (dsimp only; omega) | (simp <;> omega)) _) | (with_reducible refine Below.drew ?_) | (with_reducible refine below_drewN ?_ _) | (with_reducible refine Below.trans ?_ (Below.mono (by assumption) (by first | omega | (dsimp only; omega) | (simp <;> omega)))))); done) | assumption | (go_split_ands; assumption)⟩
              simp [results, Tryz.results6, go_sem, *]
            | rev s =>
              have z_s := hSz s (by simp)
              obtain ⟨AS, cS, rfl, hRS⟩ := hrS
              obtain ⟨sb, so, hA9, hsb, _⟩ := hRS 0 [.string s] rfl
              subst hA9
              have hs0 : wr.cell? ⟨sb, so, none⟩ = some (.string s) := by
                obtain ⟨b9, o9, e9, _, h9⟩ := hRS 0 [.string s] rfl
                injection e9 with e9
                injection e9 with e1 e2 _
                subst e1 e2
                simpa using h9 0 _ rfl
              have hsn : sb ≠ w.heap.size := by have := (hownS.out.lt sb rfl).1; omega
              go_wp2_with (go_at_call 31; refine (r9one_REV s z_s text _).mono ?_; rintro e wq ⟨rfl, hb⟩; obtain ⟨hc, hf, hz⟩ := bkeep hb (wr.heap.size) (by first | omega | (simp <;> omega)))
              try simp only [resAt_setCell] at *
              refine bodyPost_ret (v := .agg #[.int .i64 ((toldT text (revS s))).t, .int .i64 ((toldT text (revS s))).n, .string ((toldT text (revS s))).s, .bool ((toldT text (revS s))).b, .int .i64 ((toldT text (revS s))).c]) ?_ rfl ⟨by rw [hVr.out], by first | ((repeat (first | (with_reducible exact Below.refl _ _) | (with_reducible refine Below.alloc ?_ (by first | omega | (dsimp only; omega) | (simp <;> omega)) _) | (with_reducible refine Below.setCell ?_ (by first | omega | (dsimp only; omega) | (simp <;> omega)) _) | (with_reducible refine Below.drew ?_) | (with_reducible refine below_drewN ?_ _) | (with_reducible refine Below.trans ?_ (Below.mono (by assumption) (by first | omega | (dsimp only; omega) | (simp <;> omega)))))); done) | assumption | (go_split_ands; assumption)⟩
              simp [results, Tryz.results6, go_sem, *]
            | num s =>
              have z_s := hSz s (by simp)
              obtain ⟨AS, cS, rfl, hRS⟩ := hrS
              obtain ⟨sb, so, hA9, hsb, _⟩ := hRS 0 [.string s] rfl
              subst hA9
              have hs0 : wr.cell? ⟨sb, so, none⟩ = some (.string s) := by
                obtain ⟨b9, o9, e9, _, h9⟩ := hRS 0 [.string s] rfl
                injection e9 with e9
                injection e9 with e1 e2 _
                subst e1 e2
                simpa using h9 0 _ rfl
              have hsn : sb ≠ w.heap.size := by have := (hownS.out.lt sb rfl).1; omega
              go_wp2_with (go_at_call 31; refine (r9one_NUM s z_s text _).mono ?_; rintro e wq ⟨rfl, hb⟩; obtain ⟨hc, hf, hz⟩ := bkeep hb (wr.heap.size) (by first | omega | (simp <;> omega)))
              try simp only [resAt_setCell] at *
              refine bodyPost_ret (v := .agg #[.int .i64 ((numTx s)).t, .int .i64 ((numTx s)).n, .string ((numTx s)).s, .bool ((numTx s)).b, .int .i64 ((numTx s)).c]) ?_ rfl ⟨by rw [hVr.out], by first | ((repeat (first | (with_reducible exact Below.refl _ _) | (with_reducible refine Below.alloc ?_ (by first | omega | (dsimp only; omega) | (simp <;> omega)) _) | (with_reducible refine Below.setCell ?_ (by first | omega | (dsimp only; omega) | (simp <;> omega)) _) | (with_reducible refine Below.drew ?_) | (with_reducible refine below_drewN ?_ _) | (with_reducible refine Below.trans ?_ (Below.mono (by assumption) (by first | omega | (dsimp only; omega) | (simp <;> omega)))))); done) | assumption | (go_split_ands; assumption)⟩
              simp [results, Tryz.results6, go_sem, *]
            | left0 s =>
              have z_s := hSz s (by simp)
              have CC := r9cut_left0 s z_s  text _ wr hrN
              obtain ⟨AS, cS, rfl, hRS⟩ := hrS
              obtain ⟨sb, so, hA9, hsb, _⟩ := hRS 0 [.string s] rfl
              subst hA9
              have hs0 : wr.cell? ⟨sb, so, none⟩ = some (.string s) := by
                obtain ⟨b9, o9, e9, _, h9⟩ := hRS 0 [.string s] rfl
                injection e9 with e9
                injection e9 with e1 e2 _
                subst e1 e2
                simpa using h9 0 _ rfl
              have hsn : sb ≠ w.heap.size := by have := (hownS.out.lt sb rfl).1; omega
              obtain ⟨V9, hV9⟩ : ∃ V9 : VL, (toldT text (cutD s 1)) = V9 := ⟨_, rfl⟩
              rw [hV9] at CC hVr
              have CC' := Lib.hid CC
              clear CC hV9
              go_wp2_with (go_at_call 26; refine (CC'.out).mono ?_; rintro e wq ⟨rfl, hb⟩; obtain ⟨hc, hf, hz⟩ := bkeep hb (wr.heap.size) (by first | omega | (simp <;> omega)))
              try simp only [resAt_setCell] at *
              refine bodyPost_ret (v := .agg #[.int .i64 (V9).t, .int .i64 (V9).n, .string (V9).s, .bool (V9).b, .int .i64 (V9).c]) ?_ rfl ⟨by rw [hVr.out], by first | ((repeat (first | (with_reducible exact Below.refl _ _) | (with_reducible refine Below.alloc ?_ (by first | omega | (dsimp only; omega) | (simp <;> omega)) _) | (with_reducible refine Below.setCell ?_ (by first | omega | (dsimp only; omega) | (simp <;> omega)) _) | (with_reducible refine Below.drew ?_) | (with_reducible refine below_drewN ?_ _) | (with_reducible refine Below.trans ?_ (Below.mono (by assumption) (by first | omega | (dsimp only; omega) | (simp <;> omega)))))); done) | assumption | (go_split_ands; assumption)⟩
              simp [results, Tryz.results6, go_sem, *]
            | left1 s n =>
              have z_s := hSz s (by simp)
              have z_n := hNz n (by simp)
              have CC := r9cut_left1 s z_s n z_n text _ wr hrN
              obtain ⟨AS, cS, rfl, hRS⟩ := hrS
              obtain ⟨sb, so, hA9, hsb, _⟩ := hRS 0 [.string s] rfl
              subst hA9
              have hs0 : wr.cell? ⟨sb, so, none⟩ = some (.string s) := by
                obtain ⟨b9, o9, e9, _, h9⟩ := hRS 0 [.string s] rfl
                injection e9 with e9
                injection e9 with e1 e2 _
                subst e1 e2
                simpa using h9 0 _ rfl
              have hsn : sb ≠ w.heap.size := by have := (hownS.out.lt sb rfl).1; omega
              obtain ⟨V9, hV9⟩ : ∃ V9 : VL, (if n < 0 then errL 8 else toldT text (cutD s n)) = V9 := ⟨_, rfl⟩
              rw [hV9] at CC hVr
              have CC' := Lib.hid CC
              clear CC hV9
              go_wp2_with (go_at_call 26; refine (CC'.out).mono ?_; rintro e wq ⟨rfl, hb⟩; obtain ⟨hc, hf, hz⟩ := bkeep hb (wr.heap.size) (by first | omega | (simp <;> omega)))
              try simp only [resAt_setCell] at *
              refine bodyPost_ret (v := .agg #[.int .i64 (V9).t, .int .i64 (V9).n, .string (V9).s, .bool (V9).b, .int .i64 (V9).c]) ?_ rfl ⟨by rw [hVr.out], by first | ((repeat (first | (with_reducible exact Below.refl _ _) | (with_reducible refine Below.alloc ?_ (by first | omega | (dsimp only; omega) | (simp <;> omega)) _) | (with_reducible refine Below.setCell ?_ (by first | omega | (dsimp only; omega) | (simp <;> omega)) _) | (with_reducible refine Below.drew ?_) | (with_reducible refine below_drewN ?_ _) | (with_reducible refine Below.trans ?_ (Below.mono (by assumption) (by first | omega | (dsimp only; omega) | (simp <;> omega)))))); done) | assumption | (go_split_ands; assumption)⟩
              simp [results, Tryz.results6, go_sem, *]
            | right0 s =>
              have z_s := hSz s (by simp)
              have CC := r9cut_right0 s z_s  text _ wr hrN
              obtain ⟨AS, cS, rfl, hRS⟩ := hrS
              obtain ⟨sb, so, hA9, hsb, _⟩ := hRS 0 [.string s] rfl
              subst hA9
              have hs0 : wr.cell? ⟨sb, so, none⟩ = some (.string s) := by
                obtain ⟨b9, o9, e9, _, h9⟩ := hRS 0 [.string s] rfl
                injection e9 with e9
                injection e9 with e1 e2 _
                subst e1 e2
                simpa using h9 0 _ rfl
              have hsn : sb ≠ w.heap.size := by have := (hownS.out.lt sb rfl).1; omega
              obtain ⟨V9, hV9⟩ : ∃ V9 : VL, (toldT text (rightD s 1)) = V9 := ⟨_, rfl⟩
              rw [hV9] at CC hVr
              have CC' := Lib.hid CC
              clear CC hV9
              go_wp2_with (go_at_call 26; refine (CC'.out).mono ?_; rintro e wq ⟨rfl, hb⟩; obtain ⟨hc, hf, hz⟩ := bkeep hb (wr.heap.size) (by first | omega | (simp <;> omega)))
              try simp only [resAt_setCell] at *
              refine bodyPost_ret (v := .agg #[.int .i64 (V9).t, .int .i64 (V9).n, .string (V9).s, .bool (V9).b, .int .i64 (V9).c]) ?_ rfl ⟨by rw [hVr.out], by first | ((repeat (first | (with_reducible exact Below.refl _ _) | (with_reducible refine Below.alloc ?_ (by first | omega | (dsimp only; omega) | (simp <;> omega)) _) | (with_reducible refine Below.setCell ?_ (by first | omega | (dsimp only; omega) | (simp <;> omega)) _) | (with_reducible refine Below.drew ?_) | (with_reducible refine below_drewN ?_ _) | (with_reducible refine Below.trans ?_ (Below.mono (by assumption) (by first | omega | (dsimp only; omega) | (simp <;> omega)))))); done) | assumption | (go_split_ands; assumption)⟩
              simp [results, Tryz.results6, go_sem, *]
            | right1 s n =>
              have z_s := hSz s (by simp)
              have z_n := hNz n (by simp)
              have CC := r9cut_right1 s z_s n z_n text _ wr hrN
              obtain ⟨AS, cS, rfl, hRS⟩ := hrS
              obtain ⟨sb, so, hA9, hsb, _⟩ := hRS 0 [.string s] rfl
              subst hA9
              have hs0 : wr.cell? ⟨sb, so, none⟩ = some (.string s) := by
                obtain ⟨b9, o9, e9, _, h9⟩ := hRS 0 [.string s] rfl
                injection e9 with e9
                injection e9 with e1 e2 _
                subst e1 e2
                simpa using h9 0 _ rfl
              have hsn : sb ≠ w.heap.size := by have := (hownS.out.lt sb rfl).1; omega
              obtain ⟨V9, hV9⟩ : ∃ V9 : VL, (if n < 0 then errL 8 else toldT text (rightD s n)) = V9 := ⟨_, rfl⟩
              rw [hV9] at CC hVr
              have CC' := Lib.hid CC
              clear CC hV9
              go_wp2_with (go_at_call 26; refine (CC'.out).mono ?_; rintro e wq ⟨rfl, hb⟩; obtain ⟨hc, hf, hz⟩ := bkeep hb (wr.heap.size) (by first | omega | (simp <;> omega)))
              try simp only [resAt_setCell] at *
              refine bodyPost_ret (v := .agg #[.int .i64 (V9).t, .int .i64 (V9).n, .string (V9).s, .bool (V9).b, .int .i64 (V9).c]) ?_ rfl ⟨by rw [hVr.out], by first | ((repeat (first | (with_reducible exact Below.refl _ _) | (with_reducible refine Below.alloc ?_ (by first | omega | (dsimp only; omega) | (simp <;> omega)) _) | (with_reducible refine Below.setCell ?_ (by first | omega | (dsimp only; omega) | (simp <;> omega)) _) | (with_reducible refine Below.drew ?_) | (with_reducible refine below_drewN ?_ _) | (with_reducible refine Below.trans ?_ (Below.mono (by assumption) (by first | omega | (dsimp only; omega) | (simp <;> omega)))))); done) | assumption | (go_split_ands; assumption)⟩
              simp [results, Tryz.results6, go_sem, *]
            | mid s a b =>
              have z_s := hSz s (by simp)
              have z_a := hNz a (by simp)
              have z_b := hNz b (by simp)
              have CC := r9cut_mid s z_s a z_a b z_b text _ wr hrN
              obtain ⟨AS, cS, rfl, hRS⟩ := hrS
              obtain ⟨sb, so, hA9, hsb, _⟩ := hRS 0 [.string s] rfl
              subst hA9
              have hs0 : wr.cell? ⟨sb, so, none⟩ = some (.string s) := by
                obtain ⟨b9, o9, e9, _, h9⟩ := hRS 0 [.string s] rfl
                injection e9 with e9
                injection e9 with e1 e2 _
                subst e1 e2
                simpa using h9 0 _ rfl
              have hsn : sb ≠ w.heap.size := by have := (hownS.out.lt sb rfl).1; omega
              obtain ⟨V9, hV9⟩ : ∃ V9 : VL, (if a < 1 ∨ b < 0 then errL 8 else toldT text (cutD (midD s a) b)) = V9 := ⟨_, rfl⟩
              rw [hV9] at CC hVr
              have CC' := Lib.hid CC
              clear CC hV9
              go_wp2_with (go_at_call 26; refine (CC'.out).mono ?_; rintro e wq ⟨rfl, hb⟩; obtain ⟨hc, hf, hz⟩ := bkeep hb (wr.heap.size) (by first | omega | (simp <;> omega)))
              try simp only [resAt_setCell] at *
              refine bodyPost_ret (v := .agg #[.int .i64 (V9).t, .int .i64 (V9).n, .string (V9).s, .bool (V9).b, .int .i64 (V9).c]) ?_ rfl ⟨by rw [hVr.out], by first | ((repeat (first | (with_reducible exact Below.refl _ _) | (with_reducible refine Below.alloc ?_ (by first | omega | (dsimp only; omega) | (simp <;> omega)) _) | (with_reducible refine Below.setCell ?_ (by first | omega | (dsimp only; omega) | (simp <;> omega)) _) | (with_reducible refine Below.drew ?_) | (with_reducible refine below_drewN ?_ _) | (with_reducible refine Below.trans ?_ (Below.mono (by assumption) (by first | omega | (dsimp only; omega) | (simp <;> omega)))))); done) | assumption | (go_split_ands; assumption)⟩
              simp [results, Tryz.results6, go_sem, *]
            | rept s n =>
              have z_s := hSz s (by simp)
              have z_n := hNz n (by simp)
              have CC := r9cut_rept s z_s n z_n text h9 _ wr hrN
              obtain ⟨AS, cS, rfl, hRS⟩ := hrS
              obtain ⟨sb, so, hA9, hsb, _⟩ := hRS 0 [.string s] rfl
              subst hA9
              have hs0 : wr.cell? ⟨sb, so, none⟩ = some (.string s) := by
                obtain ⟨b9, o9, e9, _, h9⟩ := hRS 0 [.string s] rfl
                injection e9 with e9
                injection e9 with e1 e2 _
                subst e1 e2
                simpa using h9 0 _ rfl
              have hsn : sb ≠ w.heap.size := by have := (hownS.out.lt sb rfl).1; omega
              obtain ⟨V9, hV9⟩ : ∃ V9 : VL, (if n < 0 then errL 8 else toldT text (repS s n.toNat)) = V9 := ⟨_, rfl⟩
              rw [hV9] at CC hVr
              have CC' := Lib.hid CC
              clear CC hV9
              go_wp2_with (go_at_call 26; refine (CC'.out).mono ?_; rintro e wq ⟨rfl, hb⟩; obtain ⟨hc, hf, hz⟩ := bkeep hb (wr.heap.size) (by first | omega | (simp <;> omega)))
              try simp only [resAt_setCell] at *
              refine bodyPost_ret (v := .agg #[.int .i64 (V9).t, .int .i64 (V9).n, .string (V9).s, .bool (V9).b, .int .i64 (V9).c]) ?_ rfl ⟨by rw [hVr.out], by first | ((repeat (first | (with_reducible exact Below.refl _ _) | (with_reducible refine Below.alloc ?_ (by first | omega | (dsimp only; omega) | (simp <;> omega)) _) | (with_reducible refine Below.setCell ?_ (by first | omega | (dsimp only; omega) | (simp <;> omega)) _) | (with_reducible refine Below.drew ?_) | (with_reducible refine below_drewN ?_ _) | (with_reducible refine Below.trans ?_ (Below.mono (by assumption) (by first | omega | (dsimp only; omega) | (simp <;> omega)))))); done) | assumption | (go_split_ands; assumption)⟩
              simp [results, Tryz.results6, go_sem, *]
            | find0 t s =>
              have z_t := hSz t (by simp)
              have z_s := hSz s (by simp)
              have CC := fun w0 : World => r9find t s (by omega) (by omega) 1 (by omega) w0
              obtain ⟨V9, hV9⟩ : ∃ V9 : VL, (findL t s 1) = V9 := ⟨_, rfl⟩
              rw [hV9] at CC hVr
              have CC' := Lib.hid CC
              clear CC hV9
              have hS9 := hownS.out
              have hN9 := hownN.out
              obtain ⟨AS, cS, rfl, hRS⟩ := hrS
              obtain ⟨AN, cN, rfl, hRN⟩ := hrN
              simp only [List.length_cons, List.length_nil, Nat.zero_add, Nat.reduceAdd] at hN9 hS9
              go_wp2_with (at_builtin; refine wpList_append_own_at _ rfl _ _ 45 rfl (w.heap.size + 1) 3 j0 (.int .i64 0) 1 8 Tryz.underlying45 hj hy0 hy1 hy2 rfl (by decide) _ _ _ rfl (hN9.alloc _) ⟨wr.heap.size, 0, none⟩ 1 1 [.int .i64 1] rfl rfl (cell_one_new _ _ _) (by simp [Value.oneCell']) (by unfold maxLen; omega) (by omega) (by simp; omega) ?_; intro v2 w4 hown4 hgrow4 hnil4 hloc4; (have hS4 := (hS9.alloc (.cells #[.int .i64 1] 3)).kept hgrow4 (rows_ne hN9 hS9 (by decide))); (have hrow2 := ownsRow_rd hown4); (obtain ⟨A4, c4, rfl, hR4⟩ := hrow2); (have hb2 : Below (w.heap.size + 1) (w.alloc (.cells #[.int .i64 0, .int .i64 0, .string ⟨#[]⟩, .bool false, .int .i64 0] 26)) w4 := (hbr.alloc hzr _).grown hgrow4 (by simp; omega) (fun j hj => (hN9.lt j hj).1)); (have hzw : w.heap.size + 1 ≤ w4.heap.size := by have := hb2.size; simp at this; omega); (have hres2 := ResAt.below (ResAt.new5 w _ _ _ _ _ 26) hb2 (by omega)); (have hgw : Below w.heap.size w w4 := b0.trans (hb2.mono (by omega))); (have hS5 := ownsRow_rd hS4); (obtain ⟨A5, c5, e5, hR5⟩ := hS5); (cases e5); (obtain ⟨sb, so, hA9, hsb, hq9⟩ := hR5 0 [.string t] rfl); (subst hA9); (have hs0 : w4.cell? ⟨sb, so, none⟩ = some (.string t) := by simpa using hq9 0 _ rfl); (obtain ⟨sb1, so1, hA9, _, hq8⟩ := hR5 1 [.string s] rfl); (cases hA9); (have hs1 : w4.cell? ⟨sb, so + 1, none⟩ = some (.string s) := by simpa using hq8 0 _ rfl); (obtain ⟨nb, no, hA8, hnb, hq7⟩ := hR4 0 [.int .i64 1] rfl); (subst hA8); (have hn0 : w4.cell? ⟨nb, no, none⟩ = some (.int .i64 1) := by simpa using hq7 0 _ rfl); (have hsn : sb ≠ w.heap.size := by have := (hS4.lt sb rfl).1; omega); (have hnn : nb ≠ w.heap.size := by have := (hown4.lt nb rfl).1; omega); (clear hR4 hR5 hq7 hq8 hq9 hgrow4 hown4 hS4 hnil4 hloc4))
              first | (go_loud (go_region_held3 (fun w' => w'.cell? ⟨sb, so, none⟩ = some (.string t) ∧ w'.cell? ⟨sb, so + 1, none⟩ = some (.string s) ∧ w'.cell? ⟨nb, no, none⟩ = some (.int .i64 1) ∧ ResAt w' (w.heap.size) 5 ∧ Below w.heap.size w w' ∧ w4.heap.size ≤ w'.heap.size)
                (first | (go_split_ands; exact ⟨(by simp [go_sem, *]), (by simp [go_sem, *]), (by simp [go_sem, *]), (by first | (with_reducible exact ResAt.drew (ResAt.new5 _ _ _ _ _ _ _)) | (repeat (first | (with_reducible assumption) | (with_reducible refine ResAt.setCell ?_ _ _) | (with_reducible refine ResAt.drew ?_) | (with_reducible refine ResAt.drewN ?_ _)))), (by (repeat (first | (with_reducible exact Below.refl _ _) | (with_reducible refine Below.alloc ?_ (by first | omega | (dsimp only; omega) | (simp <;> omega)) _) | (with_reducible refine Below.setCell ?_ (by first | omega | (dsimp only; omega) | (simp <;> omega)) _) | (with_reducible refine Below.drew ?_) | (with_reducible refine below_drewN ?_ _) | (with_reducible refine Below.trans ?_ (Below.mono (by assumption) (by first | omega | (dsimp only; omega) | (simp <;> omega))))))), (by first | (simp; done) | (simp; omega))⟩) | (exact ⟨(by simp [go_sem, *]), (by simp [go_sem, *]), (by simp [go_sem, *]), (by first | (with_reducible exact ResAt.drew (ResAt.new5 _ _ _ _ _ _ _)) | (repeat (first | (with_reducible assumption) | (with_reducible refine ResAt.setCell ?_ _ _) | (with_reducible refine ResAt.drew ?_) | (with_reducible refine ResAt.drewN ?_ _)))), (by (repeat (first | (with_reducible exact Below.refl _ _) | (with_reducible refine Below.alloc ?_ (by first | omega | (dsimp only; omega) | (simp <;> omega)) _) | (with_reducible refine Below.setCell ?_ (by first | omega | (dsimp only; omega) | (simp <;> omega)) _) | (with_reducible refine Below.drew ?_) | (with_reducible refine below_drewN ?_ _) | (with_reducible refine Below.trans ?_ (Below.mono (by assumption) (by first | omega | (dsimp only; omega) | (simp <;> omega))))))), (by first | (simp; done) | (simp; omega))⟩) | (go_split_ands; exact ⟨(by rw [hb.cell (by dsimp only; omega)]; assumption), (by rw [hb.cell (by dsimp only; omega)]; assumption), (by rw [hb.cell (by dsimp only; omega)]; assumption), (ResAt.below (by assumption) hb (by omega)), (Below.trans (by assumption) (hb.mono (by omega))), (by have := hb.size; omega)⟩))
                (first | (go_at_call 27; refine (CC'.out _).mono ?_; rintro e w1 ⟨rfl, hb⟩)))) | fail "region"
              go_split_ands
              go_wp2
              try simp only [resAt_setCell] at *
              refine bodyPost_ret (v := .agg #[.int .i64 (V9).t, .int .i64 (V9).n, .string (V9).s, .bool (V9).b, .int .i64 (V9).c]) ?_ rfl ⟨by rw [hVr.out], by first | ((repeat (first | (with_reducible exact Below.refl _ _) | (with_reducible refine Below.alloc ?_ (by first | omega | (dsimp only; omega) | (simp <;> omega)) _) | (with_reducible refine Below.setCell ?_ (by first | omega | (dsimp only; omega) | (simp <;> omega)) _) | (with_reducible refine Below.drew ?_) | (with_reducible refine below_drewN ?_ _) | (with_reducible refine Below.trans ?_ (Below.mono (by assumption) (by first | omega | (dsimp only; omega) | (simp <;> omega)))))); done) | assumption | (go_split_ands; assumption)⟩
              simp [results, Tryz.results6, go_sem, *]
            | find1 t s n =>
              have z_t := hSz t (by simp)
              have z_s := hSz s (by simp)
              have z_n := hNz n (by simp)
              have CC := fun w0 : World => r9find t s (by omega) (by omega) n (by omega) w0
              obtain ⟨V9, hV9⟩ : ∃ V9 : VL, (findL t s n) = V9 := ⟨_, rfl⟩
              rw [hV9] at CC hVr
              have CC' := Lib.hid CC
              clear CC hV9
              have hS9 := hownS.out
              have hN9 := hownN.out
              obtain ⟨AS, cS, rfl, hRS⟩ := hrS
              obtain ⟨AN, cN, rfl, hRN⟩ := hrN
              simp only [List.length_cons, List.length_nil, Nat.zero_add, Nat.reduceAdd] at hN9 hS9
              go_wp2_with (at_builtin; refine wpList_append_own_at _ rfl _ _ 45 rfl (w.heap.size + 1) 3 j0 (.int .i64 0) 1 8 Tryz.underlying45 hj hy0 hy1 hy2 rfl (by decide) _ _ _ rfl (hN9.alloc _) ⟨wr.heap.size, 0, none⟩ 1 1 [.int .i64 1] rfl rfl (cell_one_new _ _ _) (by simp [Value.oneCell']) (by unfold maxLen; omega) (by omega) (by simp; omega) ?_; intro v2 w4 hown4 hgrow4 hnil4 hloc4; (have hS4 := (hS9.alloc (.cells #[.int .i64 1] 3)).kept hgrow4 (rows_ne hN9 hS9 (by decide))); (have hrow2 := ownsRow_rd hown4); (obtain ⟨A4, c4, rfl, hR4⟩ := hrow2); (have hb2 : Below (w.heap.size + 1) (w.alloc (.cells #[.int .i64 0, .int .i64 0, .string ⟨#[]⟩, .bool false, .int .i64 0] 26)) w4 := (hbr.alloc hzr _).grown hgrow4 (by simp; omega) (fun j hj => (hN9.lt j hj).1)); (have hzw : w.heap.size + 1 ≤ w4.heap.size := by have := hb2.size; simp at this; omega); (have hres2 := ResAt.below (ResAt.new5 w _ _ _ _ _ 26) hb2 (by omega)); (have hgw : Below w.heap.size w w4 := b0.trans (hb2.mono (by omega))); (have hS5 := ownsRow_rd hS4); (obtain ⟨A5, c5, e5, hR5⟩ := hS5); (cases e5); (obtain ⟨sb, so, hA9, hsb, hq9⟩ := hR5 0 [.string t] rfl); (subst hA9); (have hs0 : w4.cell? ⟨sb, so, none⟩ = some (.string t) := by simpa using hq9 0 _ rfl); (obtain ⟨sb1, so1, hA9, _, hq8⟩ := hR5 1 [.string s] rfl); (cases hA9); (have hs1 : w4.cell? ⟨sb, so + 1, none⟩ = some (.string s) := by simpa using hq8 0 _ rfl); (obtain ⟨nb, no, hA8, hnb, hq7⟩ := hR4 0 [.int .i64 n] rfl); (subst hA8); (have hn0 : w4.cell? ⟨nb, no, none⟩ = some (.int .i64 n) := by simpa using hq7 0 _ rfl); (have hsn : sb ≠ w.heap.size := by have := (hS4.lt sb rfl).1; omega); (have hnn : nb ≠ w.heap.size := by have := (hown4.lt nb rfl).1; omega); (clear hR4 hR5 hq7 hq8 hq9 hgrow4 hown4 hS4 hnil4 hloc4))
              first | (go_loud (go_region_held3 (fun w' => w'.cell? ⟨sb, so, none⟩ = some (.string t) ∧ w'.cell? ⟨sb, so + 1, none⟩ = some (.string s) ∧ w'.cell? ⟨nb, no, none⟩ = some (.int .i64 n) ∧ ResAt w' (w.heap.size) 5 ∧ Below w.heap.size w w' ∧ w4.heap.size ≤ w'.heap.size)
                (first | (go_split_ands; exact ⟨(by simp [go_sem, *]), (by simp [go_sem, *]), (by simp [go_sem, *]), (by first | (with_reducible exact ResAt.drew (ResAt.new5 _ _ _ _ _ _ _)) | (repeat (first | (with_reducible assumption) | (with_reducible refine ResAt.setCell ?_ _ _) | (with_reducible refine ResAt.drew ?_) | (with_reducible refine ResAt.drewN ?_ _)))), (by (repeat (first | (with_reducible exact Below.refl _ _) | (with_reducible refine Below.alloc ?_ (by first | omega | (dsimp only; omega) | (simp <;> omega)) _) | (with_reducible refine Below.setCell ?_ (by first | omega | (dsimp only; omega) | (simp <;> omega)) _) | (with_reducible refine Below.drew ?_) | (with_reducible refine below_drewN ?_ _) | (with_reducible refine Below.trans ?_ (Below.mono (by assumption) (by first | omega | (dsimp only; omega) | (simp <;> omega))))))), (by first | (simp; done) | (simp; omega))⟩) | (exact ⟨(by simp [go_sem, *]), (by simp [go_sem, *]), (by simp [go_sem, *]), (by first | (with_reducible exact ResAt.drew (ResAt.new5 _ _ _ _ _ _ _)) | (repeat (first | (with_reducible assumption) | (with_reducible refine ResAt.setCell ?_ _ _) | (with_reducible refine ResAt.drew ?_) | (with_reducible refine ResAt.drewN ?_ _)))), (by (repeat (first | (with_reducible exact Below.refl _ _) | (with_reducible refine Below.alloc ?_ (by first | omega | (dsimp only; omega) | (simp <;> omega)) _) | (with_reducible refine Below.setCell ?_ (by first | omega | (dsimp only; omega) | (simp <;> omega)) _) | (with_reducible refine Below.drew ?_) | (with_reducible refine below_drewN ?_ _) | (with_reducible refine Below.trans ?_ (Below.mono (by assumption) (by first | omega | (dsimp only; omega) | (simp <;> omega))))))), (by first | (simp; done) | (simp; omega))⟩) | (go_split_ands; exact ⟨(by rw [hb.cell (by dsimp only; omega)]; assumption), (by rw [hb.cell (by dsimp only; omega)]; assumption), (by rw [hb.cell (by dsimp only; omega)]; assumption), (ResAt.below (by assumption) hb (by omega)), (Below.trans (by assumption) (hb.mono (by omega))), (by have := hb.size; omega)⟩))
                (first | (go_at_call 27; refine (CC'.out _).mono ?_; rintro e w1 ⟨rfl, hb⟩)))) | fail "region"
              go_split_ands
              go_wp2
              try simp only [resAt_setCell] at *
              refine bodyPost_ret (v := .agg #[.int .i64 (V9).t, .int .i64 (V9).n, .string (V9).s, .bool (V9).b, .int .i64 (V9).c]) ?_ rfl ⟨by rw [hVr.out], by first | ((repeat (first | (with_reducible exact Below.refl _ _) | (with_reducible refine Below.alloc ?_ (by first | omega | (dsimp only; omega) | (simp <;> omega)) _) | (with_reducible refine Below.setCell ?_ (by first | omega | (dsimp only; omega) | (simp <;> omega)) _) | (with_reducible refine Below.drew ?_) | (with_reducible refine below_drewN ?_ _) | (with_reducible refine Below.trans ?_ (Below.mono (by assumption) (by first | omega | (dsimp only; omega) | (simp <;> omega)))))); done) | assumption | (go_split_ands; assumption)⟩
              simp [results, Tryz.results6, go_sem, *]
            | subst s t u =>
              have z_s := hSz s (by simp)
              have z_t := hSz t (by simp)
              have z_u := hSz u (by simp)
              obtain ⟨AS, cS, rfl, hRS⟩ := hrS
              obtain ⟨sb, so, hA9, hsb, _⟩ := hRS 0 [.string s] rfl
              subst hA9
              have hs0 : wr.cell? ⟨sb, so, none⟩ = some (.string s) := by
                obtain ⟨b9, o9, e9, _, h9⟩ := hRS 0 [.string s] rfl
                injection e9 with e9
                injection e9 with e1 e2 _
                subst e1 e2
                simpa using h9 0 _ rfl
              have hs1 : wr.cell? ⟨sb, so + 1, none⟩ = some (.string t) := by
                obtain ⟨b9, o9, e9, _, h9⟩ := hRS 1 [.string t] rfl
                injection e9 with e9
                injection e9 with e1 e2 _
                subst e1 e2
                simpa using h9 0 _ rfl
              have hs2 : wr.cell? ⟨sb, so + 2, none⟩ = some (.string u) := by
                obtain ⟨b9, o9, e9, _, h9⟩ := hRS 2 [.string u] rfl
                injection e9 with e9
                injection e9 with e1 e2 _
                subst e1 e2
                simpa using h9 0 _ rfl
              have hsn : sb ≠ w.heap.size := by have := (hownS.out.lt sb rfl).1; omega
              have CC := fun w0 : World => r9subst s t u (by omega) (by omega) (by omega) text h9 w0
              obtain ⟨V9, hV9⟩ : ∃ V9 : VL, (if t = ⟨#[]⟩ then errL 8 else toldT text (substS s t u)) = V9 := ⟨_, rfl⟩
              rw [hV9] at CC hVr
              have CC' := Lib.hid CC
              clear CC hV9
              go_wp2
              first | (go_loud (go_region_held3 (fun w' => w'.cell? ⟨sb, so, none⟩ = some (.string s) ∧ w'.cell? ⟨sb, so + 1, none⟩ = some (.string t) ∧ w'.cell? ⟨sb, so + 2, none⟩ = some (.string u) ∧ ResAt w' (w.heap.size) 5 ∧ Below w.heap.size w w' ∧ wr.heap.size ≤ w'.heap.size)
                (first | (go_split_ands; exact ⟨(by simp [go_sem, *]), (by simp [go_sem, *]), (by simp [go_sem, *]), (by first | (with_reducible exact ResAt.drew (ResAt.new5 _ _ _ _ _ _ _)) | (repeat (first | (with_reducible assumption) | (with_reducible refine ResAt.setCell ?_ _ _) | (with_reducible refine ResAt.drew ?_) | (with_reducible refine ResAt.drewN ?_ _)))), (by (repeat (first | (with_reducible exact Below.refl _ _) | (with_reducible refine Below.alloc ?_ (by first | omega | (dsimp only; omega) | (simp <;> omega)) _) | (with_reducible refine Below.setCell ?_ (by first | omega | (dsimp only; omega) | (simp <;> omega)) _) | (with_reducible refine Below.drew ?_) | (with_reducible refine below_drewN ?_ _) | (with_reducible refine Below.trans ?_ (Below.mono (by assumption) (by first | omega | (dsimp only; omega) | (simp <;> omega))))))), (by first | (simp; done) | (simp; omega))⟩) | (exact ⟨(by simp [go_sem, *]), (by simp [go_sem, *]), (by simp [go_sem, *]), (by first | (with_reducible exact ResAt.drew (ResAt.new5 _ _ _ _ _ _ _)) | (repeat (first | (with_reducible assumption) | (with_reducible refine ResAt.setCell ?_ _ _) | (with_reducible refine ResAt.drew ?_) | (with_reducible refine ResAt.drewN ?_ _)))), (by (repeat (first | (with_reducible exact Below.refl _ _) | (with_reducible refine Below.alloc ?_ (by first | omega | (dsimp only; omega) | (simp <;> omega)) _) | (with_reducible refine Below.setCell ?_ (by first | omega | (dsimp only; omega) | (simp <;> omega)) _) | (with_reducible refine Below.drew ?_) | (with_reducible refine below_drewN ?_ _) | (with_reducible refine Below.trans ?_ (Below.mono (by assumption) (by first | omega | (dsimp only; omega) | (simp <;> omega))))))), (by first | (simp; done) | (simp; omega))⟩) | (go_split_ands; exact ⟨(by rw [hb.cell (by dsimp only; omega)]; assumption), (by rw [hb.cell (by dsimp only; omega)]; assumption), (by rw [hb.cell (by dsimp only; omega)]; assumption), (ResAt.below (by assumption) hb (by omega)), (Below.trans (by assumption) (hb.mono (by omega))), (by have := hb.size; omega)⟩))
                (first | (go_at_call 28; refine (CC'.out _).mono ?_; rintro e w1 ⟨rfl, hb⟩)))) | fail "region"
              go_split_ands
              go_wp2
              try simp only [resAt_setCell] at *
              refine bodyPost_ret (v := .agg #[.int .i64 (V9).t, .int .i64 (V9).n, .string (V9).s, .bool (V9).b, .int .i64 (V9).c]) ?_ rfl ⟨by rw [hVr.out], by first | ((repeat (first | (with_reducible exact Below.refl _ _) | (with_reducible refine Below.alloc ?_ (by first | omega | (dsimp only; omega) | (simp <;> omega)) _) | (with_reducible refine Below.setCell ?_ (by first | omega | (dsimp only; omega) | (simp <;> omega)) _) | (with_reducible refine Below.drew ?_) | (with_reducible refine below_drewN ?_ _) | (with_reducible refine Below.trans ?_ (Below.mono (by assumption) (by first | omega | (dsimp only; omega) | (simp <;> omega)))))); done) | assumption | (go_split_ands; assumption)⟩
              simp [results, Tryz.results6, go_sem, *]
            | exact s t =>
              have z_s := hSz s (by simp)
              have z_t := hSz t (by simp)
              obtain ⟨AS, cS, rfl, hRS⟩ := hrS
              obtain ⟨sb, so, hA9, hsb, _⟩ := hRS 0 [.string s] rfl
              subst hA9
              have hs0 : wr.cell? ⟨sb, so, none⟩ = some (.string s) := by
                obtain ⟨b9, o9, e9, _, h9⟩ := hRS 0 [.string s] rfl
                injection e9 with e9
                injection e9 with e1 e2 _
                subst e1 e2
                simpa using h9 0 _ rfl
              have hs1 : wr.cell? ⟨sb, so + 1, none⟩ = some (.string t) := by
                obtain ⟨b9, o9, e9, _, h9⟩ := hRS 1 [.string t] rfl
                injection e9 with e9
                injection e9 with e1 e2 _
                subst e1 e2
                simpa using h9 0 _ rfl
              have hsn : sb ≠ w.heap.size := by have := (hownS.out.lt sb rfl).1; omega
              go_wp2
              first | (go_loud (go_region_held3 (fun w' => w'.cell? ⟨sb, so, none⟩ = some (.string s) ∧ w'.cell? ⟨sb, so + 1, none⟩ = some (.string t) ∧ ResAt w' (w.heap.size) 5 ∧ Below w.heap.size w w' ∧ wr.heap.size ≤ w'.heap.size)
                (first | (go_split_ands; exact ⟨(by simp [go_sem, *]), (by simp [go_sem, *]), (by first | (with_reducible exact ResAt.drew (ResAt.new5 _ _ _ _ _ _ _)) | (repeat (first | (with_reducible assumption) | (with_reducible refine ResAt.setCell ?_ _ _) | (with_reducible refine ResAt.drew ?_) | (with_reducible refine ResAt.drewN ?_ _)))), (by (repeat (first | (with_reducible exact Below.refl _ _) | (with_reducible refine Below.alloc ?_ (by first | omega | (dsimp only; omega) | (simp <;> omega)) _) | (with_reducible refine Below.setCell ?_ (by first | omega | (dsimp only; omega) | (simp <;> omega)) _) | (with_reducible refine Below.drew ?_) | (with_reducible refine below_drewN ?_ _) | (with_reducible refine Below.trans ?_ (Below.mono (by assumption) (by first | omega | (dsimp only; omega) | (simp <;> omega))))))), (by first | (simp; done) | (simp; omega))⟩) | (exact ⟨(by simp [go_sem, *]), (by simp [go_sem, *]), (by first | (with_reducible exact ResAt.drew (ResAt.new5 _ _ _ _ _ _ _)) | (repeat (first | (with_reducible assumption) | (with_reducible refine ResAt.setCell ?_ _ _) | (with_reducible refine ResAt.drew ?_) | (with_reducible refine ResAt.drewN ?_ _)))), (by (repeat (first | (with_reducible exact Below.refl _ _) | (with_reducible refine Below.alloc ?_ (by first | omega | (dsimp only; omega) | (simp <;> omega)) _) | (with_reducible refine Below.setCell ?_ (by first | omega | (dsimp only; omega) | (simp <;> omega)) _) | (with_reducible refine Below.drew ?_) | (with_reducible refine below_drewN ?_ _) | (with_reducible refine Below.trans ?_ (Below.mono (by assumption) (by first | omega | (dsimp only; omega) | (simp <;> omega))))))), (by first | (simp; done) | (simp; omega))⟩) | (go_split_ands; exact ⟨(by rw [hb.cell (by dsimp only; omega)]; assumption), (by rw [hb.cell (by dsimp only; omega)]; assumption), (ResAt.below (by assumption) hb (by omega)), (Below.trans (by assumption) (hb.mono (by omega))), (by have := hb.size; omega)⟩))
                (first | (go_at_call 30; refine (rvtruth_any (decide (s = t)) _).mono ?_; rintro e w1 ⟨rfl, hb⟩)))) | fail "region"
              go_split_ands
              go_wp2
              try simp only [resAt_setCell] at *
              refine bodyPost_ret (v := .agg #[.int .i64 3, .int .i64 0, .string ⟨#[]⟩, .bool (decide (s = t)), .int .i64 0]) ?_ rfl ⟨by rw [hVr.out]; rfl, by first | ((repeat (first | (with_reducible exact Below.refl _ _) | (with_reducible refine Below.alloc ?_ (by first | omega | (dsimp only; omega) | (simp <;> omega)) _) | (with_reducible refine Below.setCell ?_ (by first | omega | (dsimp only; omega) | (simp <;> omega)) _) | (with_reducible refine Below.drew ?_) | (with_reducible refine below_drewN ?_ _) | (with_reducible refine Below.trans ?_ (Below.mono (by assumption) (by first | omega | (dsimp only; omega) | (simp <;> omega)))))); done) | assumption | (go_split_ands; assumption)⟩
              simp [results, Tryz.results6, go_sem, *]
            | char n =>
              have z_n := hNz n (by simp)
              obtain ⟨AN, cN, rfl, hRN⟩ := hrN
              obtain ⟨nb, no, hA8, hnb, _⟩ := hRN 0 [.int .i64 n] rfl
              subst hA8
              have hn0 : wr.cell? ⟨nb, no, none⟩ = some (.int .i64 n) := by
                obtain ⟨b9, o9, e9, _, h9⟩ := hRN 0 [.int .i64 n] rfl
                injection e9 with e9
                injection e9 with e1 e2 _
                subst e1 e2
                simpa using h9 0 _ rfl
              by_cases n1 : n < 0
              · have hve := Lib.hid (show V = errL 8 from by rw [hVr.out, if_pos (Or.inl n1)])
                go_wp2_with (go_at_call 20; refine (rverr9 8 _).mono ?_; rintro e wq ⟨rfl, hb⟩; obtain ⟨hc, hf, hz⟩ := bkeep hb (wr.heap.size) (by first | omega | (simp <;> omega)))
                try simp only [resAt_setCell] at *
                refine bodyPost_ret (v := .agg #[.int .i64 4, .int .i64 0, .string ⟨#[]⟩, .bool false, .int .i64 (errC 8)]) ?_ rfl ⟨by rw [hve.out]; rfl, by first | ((repeat (first | (with_reducible exact Below.refl _ _) | (with_reducible refine Below.alloc ?_ (by first | omega | (dsimp only; omega) | (simp <;> omega)) _) | (with_reducible refine Below.setCell ?_ (by first | omega | (dsimp only; omega) | (simp <;> omega)) _) | (with_reducible refine Below.drew ?_) | (with_reducible refine below_drewN ?_ _) | (with_reducible refine Below.trans ?_ (Below.mono (by assumption) (by first | omega | (dsimp only; omega) | (simp <;> omega)))))); done) | assumption | (go_split_ands; assumption)⟩
                simp [results, Tryz.results6, go_sem, *]
              by_cases n2 : 255 < n
              · have hve := Lib.hid (show V = errL 8 from by rw [hVr.out, if_pos (Or.inr n2)])
                go_wp2_with (go_at_call 20; refine (rverr9 8 _).mono ?_; rintro e wq ⟨rfl, hb⟩; obtain ⟨hc, hf, hz⟩ := bkeep hb (wr.heap.size) (by first | omega | (simp <;> omega)))
                try simp only [resAt_setCell] at *
                refine bodyPost_ret (v := .agg #[.int .i64 4, .int .i64 0, .string ⟨#[]⟩, .bool false, .int .i64 (errC 8)]) ?_ rfl ⟨by rw [hve.out]; rfl, by first | ((repeat (first | (with_reducible exact Below.refl _ _) | (with_reducible refine Below.alloc ?_ (by first | omega | (dsimp only; omega) | (simp <;> omega)) _) | (with_reducible refine Below.setCell ?_ (by first | omega | (dsimp only; omega) | (simp <;> omega)) _) | (with_reducible refine Below.drew ?_) | (with_reducible refine below_drewN ?_ _) | (with_reducible refine Below.trans ?_ (Below.mono (by assumption) (by first | omega | (dsimp only; omega) | (simp <;> omega)))))); done) | assumption | (go_split_ands; assumption)⟩
                simp [results, Tryz.results6, go_sem, *]
              have hve := Lib.hid (show V = toldT text ⟨#[UInt8.ofNat n.toNat]⟩ from by rw [hVr.out, if_neg (by omega)])
              obtain ⟨m, rfl⟩ := Int.eq_ofNat_of_zero_le (show 0 ≤ n by omega)
              rw [Int.toNat_natCast] at hve
              have hw8 : IntKind.u8.wrap (m : Int) = (m : Int) := IntWalk.u8_in _ (by omega)
              have hcv : ∀ (W : World) (b : Nat), W.cell? ⟨b, 0, none⟩ = some (.int .u8 (m : Int)) → (convert 61 9 (.slice (some ⟨b, 0, none⟩) 1 1)).run Tryz.prog W = .ok (.string ⟨#[UInt8.ofNat m]⟩) W := fun W b hc =>
                run_convert_bytes_back (P := Tryz.prog) W 61 9 5 ⟨b, 0, none⟩ 1 [UInt8.ofNat m] Tryz.underlying61 Tryz.underlying5 Tryz.underlying9 (fun j hj => by
                  obtain rfl : j = 0 := by simp at hj; exact hj
                  rw [Lib.add_plain, hc]
                  simp only [List.getElem_cons_zero]
                  rw [ofNat_toNat8 (by omega)])
              have hsz8 : (⟨#[UInt8.ofNat m]⟩ : ByteArray).size ≤ 9223372036854775807 := by show (1 : Nat) ≤ _; omega
              go_wp2_with (go_at_call 25; refine (r9told text ⟨#[UInt8.ofNat m]⟩ hsz8 _).mono ?_; rintro e wq ⟨rfl, hb⟩; obtain ⟨hc, hf, hz⟩ := bkeep hb (wr.heap.size) (by first | omega | (simp <;> omega)))
              try simp only [resAt_setCell] at *
              refine bodyPost_ret (v := .agg #[.int .i64 (toldT text ⟨#[UInt8.ofNat m]⟩).t, .int .i64 (toldT text ⟨#[UInt8.ofNat m]⟩).n, .string (toldT text ⟨#[UInt8.ofNat m]⟩).s, .bool (toldT text ⟨#[UInt8.ofNat m]⟩).b, .int .i64 (toldT text ⟨#[UInt8.ofNat m]⟩).c]) ?_ rfl ⟨by rw [hve.out], by first | ((repeat (first | (with_reducible exact Below.refl _ _) | (with_reducible refine Below.alloc ?_ (by first | omega | (dsimp only; omega) | (simp <;> omega)) _) | (with_reducible refine Below.setCell ?_ (by first | omega | (dsimp only; omega) | (simp <;> omega)) _) | (with_reducible refine Below.drew ?_) | (with_reducible refine below_drewN ?_ _) | (with_reducible refine Below.trans ?_ (Below.mono (by assumption) (by first | omega | (dsimp only; omega) | (simp <;> omega)))))); done) | assumption | (go_split_ands; assumption)⟩
              simp [results, Tryz.results6, go_sem, *]
            | concat _ hl0 =>
              have CC := r9concat S hSl (fun x hx => by have := hSz x hx; omega) text h9 u14 wr hrS
              have CC' := Lib.hid CC
              clear CC
              obtain ⟨AS, cS, rfl, hRS⟩ := hrS
              go_wp2_with (go_at_call 29; refine (CC'.out).mono ?_; rintro e wq ⟨rfl, hb⟩; obtain ⟨hc, hf, hz⟩ := bkeep hb (wr.heap.size) (by first | omega | (simp <;> omega)))
              try simp only [resAt_setCell] at *
              refine bodyPost_ret (v := .agg #[.int .i64 (toldT text (joinS S)).t, .int .i64 (toldT text (joinS S)).n, .string (toldT text (joinS S)).s, .bool (toldT text (joinS S)).b, .int .i64 (toldT text (joinS S)).c]) ?_ rfl ⟨by rw [hVr.out], by first | ((repeat (first | (with_reducible exact Below.refl _ _) | (with_reducible refine Below.alloc ?_ (by first | omega | (dsimp only; omega) | (simp <;> omega)) _) | (with_reducible refine Below.setCell ?_ (by first | omega | (dsimp only; omega) | (simp <;> omega)) _) | (with_reducible refine Below.drew ?_) | (with_reducible refine below_drewN ?_ _) | (with_reducible refine Below.trans ?_ (Below.mono (by assumption) (by first | omega | (dsimp only; omega) | (simp <;> omega)))))); done) | assumption | (go_split_ands; assumption)⟩
              simp [results, Tryz.results6, go_sem, *]
end Go.Proofs.YtgmhifafbebjfaaGreatDoor
