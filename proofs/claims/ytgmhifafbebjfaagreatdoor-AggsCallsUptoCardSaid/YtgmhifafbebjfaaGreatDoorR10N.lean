/-
 the document's aggs: Call.
-/
import Derived.Test.YtgmhifafbebjfaaGreatDoorR10M
import Derived.Test.YtgmhifafbebjfaaGreatDoorR10L
import Derived.Test.YtgmhifafbebjfaaGreatDoorR10K
import Derived.Test.YtgmhifafbebjfaaGreatDoorATak
import Derived.Test.YtgmhifafbebjfaaGreatDoorMg46
set_option maxRecDepth 100000
set_option maxHeartbeats 32000000
namespace Go.Proofs.YtgmhifafbebjfaaGreatDoor
open Go.RowKit

theorem faul_may8 (l : List AL) (h : l.all argMay = true) : faulL l = l.find? (fun x => decide (x.v.t = 4)) := by
 unfold faulL
 induction l with
 | nil => rfl
 |
  cons x l ih =>
  simp only [List.all_cons, Bool.and_eq_true] at h
  have e : (!x.many && decide (x.v.t = 4)) = decide (x.v.t = 4) := by
   cases hm : x.many with
   | false => simp
   |
    true =>
    obtain ⟨-, h0, -⟩ := may_parts hm h.1
    rw [h0]; simp
  simp only [List.find?_cons, e, ih h.2]
theorem cntW_in {x : AL} (hm : mayRectB x.t x.l x.b x.r = true) (he : entsOk x = true) (v : VL) : -100000000 ≤ cntW x v ∧ cntW x v ≤ 100000000 := by
 have h1 := ent_len2 hm he
 obtain ⟨q1, q2, q3, q4, q5, q6⟩ := rect_in2 hm
 have hRb : 1 ≤ rowsL x ∧ rowsL x ≤ 4096 := by unfold rowsL; omega
 have hCb : 1 ≤ colsL x ∧ colsL x ≤ 256 := by unfold colsL; omega
 have hP1 : 1 ≤ rowsL x * colsL x ∧ rowsL x * colsL x ≤ 1048576 := ⟨by have := Int.mul_le_mul hRb.1 hCb.1 (by omega) (by omega); simpa using this, by have := Int.mul_le_mul hRb.2 hCb.2 (by omega) (by omega); simpa using this⟩
 unfold cntW
 split
 ·have : (x.es.countP fun e => !decide (e.v.t = 0)) ≤ x.es.length := List.countP_le_length
  omega
 ·have : (x.es.countP fun e => e.v.eqv v) ≤ x.es.length := List.countP_le_length
  omega
theorem r10call_any (name : ByteArray) (l : List AL) (hlen : l.length ≤ 1649267441664) (text : Int) (r : VL) (hF : 0 ≤ text ∧ text ≤ 1024 → takesA name (l.map fun x => x.many) = true → l.all argMay = true → (∀ x ∈ l, ¬ x.v.t = 4) → FormG text name l r) (w : World) (A : Option Addr) (cap : Nat) (hcap : l.length ≤ cap) (hR : RdB w w.heap.size A 11 (l.map AL.cs)) (hin : ∀ x ∈ l, x.In w w.heap.size) :
  Calls Tryz.prog 9 #[.string name, .slice A l.length cap, .int .i64 text] w fun e w' => e = .returned (.agg #[.int .i64 ((callA name l text r)).t, .int .i64 ((callA name l text r)).n, .string ((callA name l text r)).s, .bool ((callA name l text r)).b, .int .i64 ((callA name l text r)).c]) ∧ Below w.heap.size w w' := by
 have hR' := Lib.hid hR
 have hin' := Lib.hid hin
 obtain ⟨V, hV0⟩ : ∃ V, callA name l text r = V := ⟨_, rfl⟩
 have hV := Lib.hid hV0
 rw [hV0]
 clear hR hin hV0
 have b0 : Below w.heap.size w (w.alloc (.cells #[.int .i64 0, .int .i64 0, .string ⟨#[]⟩, .bool false, .int .i64 0] 26)) := (Below.refl _ _).alloc (Nat.le_refl _) _
 go_enter Tryz.func9, Tryz.ntmps9
 go_wp2_with fail
 refine (rargs_any l (by omega) _ A cap ((hR'.out.below b0).mono (by simp)) (fun x hx => ((hin'.out x hx).below b0).mono (by simp))).mono ?_
 rintro e w1 ⟨u, rfl, hown, hb1⟩
 have h1 : Below (w.heap.size + 1) (w.alloc (.cells #[.int .i64 0, .int .i64 0, .string ⟨#[]⟩, .bool false, .int .i64 0] 26)) w1 := hb1.mono (by simp)
 have hz1 := h1.size
 simp only [World.size_alloc] at hz1
 have g1 : Below w.heap.size w w1 := b0.trans (h1.mono (by omega))
 have hlw : w.heap.size < w1.heap.size := by omega
 obtain ⟨A2, cap2, rfl, hrd⟩ := ownsRow_rd hown
 have hrd2 : RdB w1 w1.heap.size A2 1 ((l.map fun x => x.many).map fun (x : Bool) => [Value.bool x]) := by
  have e : ((l.map fun x => Value.bool x.many).map fun x => [x]) = ((l.map fun x => x.many).map fun (x : Bool) => [Value.bool x]) := by simp
  rw [← e]; exact hrd
 clear hrd hown hb1
 by_cases ht1 : text < 0
 ·have hcr := Lib.hid (show V = errL 8 from by rw [← hV.out]; unfold callA; rw [if_pos (Or.inl ht1)])
  clear hrd2
  obtain ⟨hr0, hr1, hr2, hr3, hr4, hs0, hs1, hs2, hs3, hs4⟩ := res5 h1
  go_wp2_with (go_at_call 20; refine (rverrA 8 _).mono ?_; rintro e w9 ⟨rfl, hb⟩; obtain ⟨hc, hf, hz⟩ := bkeep hb w1.heap.size (by first | omega | (simp <;> omega)))
  refine bodyPost_ret (v := .agg #[.int .i64 4, .int .i64 0, .string ⟨#[]⟩, .bool false, .int .i64 (errC 8)]) ?_ rfl ⟨by rw [hcr.out]; rfl, belq⟩
  simp [results, Tryz.results9, go_sem, *]
 by_cases ht2 : 1024 < text
 ·have hcr := Lib.hid (show V = errL 8 from by rw [← hV.out]; unfold callA; rw [if_pos (Or.inr ht2)])
  clear hrd2
  obtain ⟨hr0, hr1, hr2, hr3, hr4, hs0, hs1, hs2, hs3, hs4⟩ := res5 h1
  go_wp2_with (go_at_call 20; refine (rverrA 8 _).mono ?_; rintro e w9 ⟨rfl, hb⟩; obtain ⟨hc, hf, hz⟩ := bkeep hb w1.heap.size (by first | omega | (simp <;> omega)))
  refine bodyPost_ret (v := .agg #[.int .i64 4, .int .i64 0, .string ⟨#[]⟩, .bool false, .int .i64 (errC 8)]) ?_ rfl ⟨by rw [hcr.out]; rfl, belq⟩
  simp [results, Tryz.results9, go_sem, *]
 cases hall : l.all argMay
 ·have hcr := Lib.hid (show V = errL 8 from by rw [← hV.out]; unfold callA; rw [if_neg (by omega), if_pos hall])
  clear hrd2
  obtain ⟨hr0, hr1, hr2, hr3, hr4, hs0, hs1, hs2, hs3, hs4⟩ := res5 h1
  go_wp2_with (go_at_call 20; refine (rverrA 8 _).mono ?_; rintro e w9 ⟨rfl, hb⟩; obtain ⟨hc, hf, hz⟩ := bkeep hb w1.heap.size (by first | omega | (simp <;> omega)))
  refine bodyPost_ret (v := .agg #[.int .i64 4, .int .i64 0, .string ⟨#[]⟩, .bool false, .int .i64 (errC 8)]) ?_ rfl ⟨by rw [hcr.out]; rfl, belq⟩
  simp [results, Tryz.results9, go_sem, *]
 ·have hall' := Lib.hid hall
  cases ht : takesA name (l.map fun x => x.many)
  ·have CT := ratakes_any name (l.map fun x => x.many) (by simp; omega) false ht w1 A2 cap2 hrd2
   rw [List.length_map] at CT
   have CT' := Lib.hid CT
   have hcr := Lib.hid (show V = errL 8 from by rw [← hV.out]; unfold callA; rw [if_neg (by omega), if_neg (by rw [hall'.out]; simp), if_pos ht])
   clear CT ht hrd2
   go_wp2_with fail
   refine CT'.out.mono ?_
   rintro e w' ⟨rfl, rfl⟩
   obtain ⟨hr0, hr1, hr2, hr3, hr4, hs0, hs1, hs2, hs3, hs4⟩ := res5 h1
   go_wp2_with (go_at_call 20; refine (rverrA 8 _).mono ?_; rintro e w9 ⟨rfl, hb⟩; obtain ⟨hc, hf, hz⟩ := bkeep hb w1.heap.size (by first | omega | (simp <;> omega)))
   refine bodyPost_ret (v := .agg #[.int .i64 4, .int .i64 0, .string ⟨#[]⟩, .bool false, .int .i64 (errC 8)]) ?_ rfl ⟨by rw [hcr.out]; rfl, belq⟩
   simp [results, Tryz.results9, go_sem, *]
  ·have CT := ratakes_any name (l.map fun x => x.many) (by simp; omega) true ht w1 A2 cap2 hrd2
   rw [List.length_map] at CT
   have CT' := Lib.hid CT
   have hcr := Lib.hid (show V = callAS l r from by rw [← hV.out]; unfold callA; rw [if_neg (by omega), if_neg (by rw [hall'.out]; simp), if_neg (by rw [ht]; simp)])
   have hF' := Lib.hid (hF (by omega) ht)
   have hfm := faul_may8 l hall
   have CFa := rfaulty_any l (by omega) w1 A cap ((hR'.out.below g1).mono g1.size)
   clear CT ht hrd2 hF
   cases hfl : faulL l with
   |
    some x =>
    have hcs := Lib.hid (show V = x.v from by rw [hcr.out]; unfold callAS; rw [← hfm, hfl])
    have hfv : faulV l = x.v := by unfold faulV; rw [hfl]
    rw [hfv, hfl] at CFa
    simp only [Option.isSome_some] at CFa
    have CFa' := Lib.hid CFa
    clear CFa hfm hfv hfl
    go_wp2_with fail
    refine CT'.out.mono ?_
    rintro e w' ⟨rfl, rfl⟩
    go_wp2_with fail
    refine CFa'.out.mono ?_
    rintro e w2 ⟨rfl, hb2⟩
    have h2 : Below (w.heap.size + 1) (w.alloc (.cells #[.int .i64 0, .int .i64 0, .string ⟨#[]⟩, .bool false, .int .i64 0] 26)) w2 := h1.trans (hb2.mono (by omega))
    have hz2 := hb2.size
    have g2 : Below w.heap.size w w2 := b0.trans (h2.mono (by omega))
    have hlw2 : w.heap.size < w2.heap.size := by omega
    have hne2 : w.heap.size ≠ w2.heap.size := by omega
    clear hb2
    obtain ⟨hr0, hr1, hr2, hr3, hr4, hs0, hs1, hs2, hs3, hs4⟩ := res5 h2
    go_wp2
    refine bodyPost_ret (v := .agg #[.int .i64 (x.v).t, .int .i64 (x.v).n, .string (x.v).s, .bool (x.v).b, .int .i64 (x.v).c]) ?_ rfl ⟨by rw [hcs.out], belq⟩
    simp [results, Tryz.results9, go_sem, *]
   |
    none =>
    have hcs := Lib.hid (show V = r from by rw [hcr.out]; unfold callAS; rw [← hfm]; simp only [hfl])
    have h4 : ∀ x ∈ l, ¬ x.v.t = 4 := fun x hx h9 => by
     rw [hfm, List.find?_eq_none] at hfl
     exact hfl x hx (by simpa using h9)
    have hfo := hF'.out hall'.out h4
    have hfv : faulV l = v0 := by unfold faulV; rw [hfl]
    rw [hfv, hfl] at CFa
    simp only [Option.isSome_none] at CFa
    have CFa' := Lib.hid CFa
    have h9 : 0 ≤ text ∧ text ≤ 1024 := by omega
    clear CFa hfm hfv hfl hcr hF' hall hall' hV h4
    go_wp2_with fail
    refine CT'.out.mono ?_
    rintro e w' ⟨rfl, rfl⟩
    go_wp2_with fail
    refine CFa'.out.mono ?_
    rintro e w2 ⟨rfl, hb2⟩
    have h2 : Below (w.heap.size + 1) (w.alloc (.cells #[.int .i64 0, .int .i64 0, .string ⟨#[]⟩, .bool false, .int .i64 0] 26)) w2 := h1.trans (hb2.mono (by omega))
    have hz2 := hb2.size
    have qa : Below w.heap.size w w2 := b0.trans (h2.mono (by omega))
    have hlw2 : w.heap.size < w2.heap.size := by omega
    have hn2 : w.heap.size ≠ w2.heap.size := by omega
    have hRw : ∀ w3, Below w.heap.size w w3 → RdB w3 w3.heap.size A 11 (l.map AL.cs) := fun w3 h => (hR'.out.below h).mono h.size
    have hIw : ∀ w3, Below w.heap.size w w3 → ∀ x ∈ l, x.In w3 w3.heap.size := fun w3 h x hx => ((hin'.out x hx).below h).mono h.size
    have hcap' := Lib.hid hcap
    have hR0 := Lib.hid hR'.out
    clear hb2 h1 g1 hz1 hlw CT' CFa' hR' hin' hcap
    cases hfo with
    |
     cSUM _ hl hN _ =>
     have CI : ∀ w3, Below w.heap.size w w3 → Hid (Calls Tryz.prog 42 #[.slice A l.length cap] w3 fun e w' => (∃ v, e = .returned v ∧ OwnV w' w3.heap.size v (itemsL l)) ∧ Below w3.heap.size w3 w') := fun w3 h => Lib.hid (r10items l (by omega) (by omega) w3 A cap (hRw w3 h) (hIw w3 h))
     have hok := items_ok (hIw w2 qa)
     clear hRw hIw hR0
     go_wp2_with fail
     refine (CI _ ?_).out.mono ?_
     ·exact qa.alloc (by omega) _
     clear CI
     rintro e w3 ⟨⟨v3, rfl, hown3⟩, hb3⟩
     have h3 : Below (w.heap.size + 1) (w.alloc (.cells #[.int .i64 0, .int .i64 0, .string ⟨#[]⟩, .bool false, .int .i64 0] 26)) w3 := (h2.alloc (by omega) _).trans (hb3.mono (by simp; omega))
     have hz3 := h3.size
     simp only [World.size_alloc] at hz3
     have g3 : Below w.heap.size w w3 := b0.trans (h3.mono (by omega))
     have l3 : w.heap.size < w3.heap.size := by omega
     clear hb3
     obtain ⟨A3, cap3, rfl, hrd3⟩ := own_rdv hown3
     obtain ⟨hr0, hr1, hr2, hr3, hr4, hs0, hs1, hs2, hs3, hs4⟩ := res5 h3
     have CC := Lib.hid (r10fold_SUM (itemsL l) hok (by omega) w3 A3 cap3 hrd3)
     generalize hans : faultR (itemsL l) (fitL (numsL (itemsL l)).sum) = ans at *
     go_wp2_with (go_at_call 53; refine (CC.out).mono ?_; rintro e w9 ⟨rfl, hb⟩; obtain ⟨hc, hf, hz⟩ := bkeep hb w3.heap.size (by first | omega | (simp <;> omega)))
     refine bodyPost_ret (v := .agg #[.int .i64 (ans).t, .int .i64 (ans).n, .string (ans).s, .bool (ans).b, .int .i64 (ans).c]) ?_ rfl ⟨by rw [hcs.out], belq⟩
     simp [results, Tryz.results9, go_sem, *]
    |
     cPROD _ hl hN _ =>
     have CI : ∀ w3, Below w.heap.size w w3 → Hid (Calls Tryz.prog 42 #[.slice A l.length cap] w3 fun e w' => (∃ v, e = .returned v ∧ OwnV w' w3.heap.size v (itemsL l)) ∧ Below w3.heap.size w3 w') := fun w3 h => Lib.hid (r10items l (by omega) (by omega) w3 A cap (hRw w3 h) (hIw w3 h))
     have hok := items_ok (hIw w2 qa)
     clear hRw hIw hR0
     go_wp2_with fail
     refine (CI _ ?_).out.mono ?_
     ·exact qa.alloc (by omega) _
     clear CI
     rintro e w3 ⟨⟨v3, rfl, hown3⟩, hb3⟩
     have h3 : Below (w.heap.size + 1) (w.alloc (.cells #[.int .i64 0, .int .i64 0, .string ⟨#[]⟩, .bool false, .int .i64 0] 26)) w3 := (h2.alloc (by omega) _).trans (hb3.mono (by simp; omega))
     have hz3 := h3.size
     simp only [World.size_alloc] at hz3
     have g3 : Below w.heap.size w w3 := b0.trans (h3.mono (by omega))
     have l3 : w.heap.size < w3.heap.size := by omega
     clear hb3
     obtain ⟨A3, cap3, rfl, hrd3⟩ := own_rdv hown3
     obtain ⟨hr0, hr1, hr2, hr3, hr4, hs0, hs1, hs2, hs3, hs4⟩ := res5 h3
     have CC := Lib.hid (r10fold_PROD (itemsL l) hok (by omega) w3 A3 cap3 hrd3)
     generalize hans : faultR (itemsL l) (prodG 10000 (numsL (itemsL l))) = ans at *
     go_wp2_with (go_at_call 53; refine (CC.out).mono ?_; rintro e w9 ⟨rfl, hb⟩; obtain ⟨hc, hf, hz⟩ := bkeep hb w3.heap.size (by first | omega | (simp <;> omega)))
     refine bodyPost_ret (v := .agg #[.int .i64 (ans).t, .int .i64 (ans).n, .string (ans).s, .bool (ans).b, .int .i64 (ans).c]) ?_ rfl ⟨by rw [hcs.out], belq⟩
     simp [results, Tryz.results9, go_sem, *]
    |
     cMIN _ hl hN _ =>
     have CI : ∀ w3, Below w.heap.size w w3 → Hid (Calls Tryz.prog 42 #[.slice A l.length cap] w3 fun e w' => (∃ v, e = .returned v ∧ OwnV w' w3.heap.size v (itemsL l)) ∧ Below w3.heap.size w3 w') := fun w3 h => Lib.hid (r10items l (by omega) (by omega) w3 A cap (hRw w3 h) (hIw w3 h))
     have hok := items_ok (hIw w2 qa)
     clear hRw hIw hR0
     go_wp2_with fail
     refine (CI _ ?_).out.mono ?_
     ·exact qa.alloc (by omega) _
     clear CI
     rintro e w3 ⟨⟨v3, rfl, hown3⟩, hb3⟩
     have h3 : Below (w.heap.size + 1) (w.alloc (.cells #[.int .i64 0, .int .i64 0, .string ⟨#[]⟩, .bool false, .int .i64 0] 26)) w3 := (h2.alloc (by omega) _).trans (hb3.mono (by simp; omega))
     have hz3 := h3.size
     simp only [World.size_alloc] at hz3
     have g3 : Below w.heap.size w w3 := b0.trans (h3.mono (by omega))
     have l3 : w.heap.size < w3.heap.size := by omega
     clear hb3
     obtain ⟨A3, cap3, rfl, hrd3⟩ := own_rdv hown3
     obtain ⟨hr0, hr1, hr2, hr3, hr4, hs0, hs1, hs2, hs3, hs4⟩ := res5 h3
     have CC := Lib.hid (r10fold_MIN (itemsL l) hok (by omega) w3 A3 cap3 hrd3)
     generalize hans : faultR (itemsL l) (someR (numsL (itemsL l)) (Lib.minOf (numsL (itemsL l)))) = ans at *
     go_wp2_with (go_at_call 53; refine (CC.out).mono ?_; rintro e w9 ⟨rfl, hb⟩; obtain ⟨hc, hf, hz⟩ := bkeep hb w3.heap.size (by first | omega | (simp <;> omega)))
     refine bodyPost_ret (v := .agg #[.int .i64 (ans).t, .int .i64 (ans).n, .string (ans).s, .bool (ans).b, .int .i64 (ans).c]) ?_ rfl ⟨by rw [hcs.out], belq⟩
     simp [results, Tryz.results9, go_sem, *]
    |
     cMAX _ hl hN _ =>
     have CI : ∀ w3, Below w.heap.size w w3 → Hid (Calls Tryz.prog 42 #[.slice A l.length cap] w3 fun e w' => (∃ v, e = .returned v ∧ OwnV w' w3.heap.size v (itemsL l)) ∧ Below w3.heap.size w3 w') := fun w3 h => Lib.hid (r10items l (by omega) (by omega) w3 A cap (hRw w3 h) (hIw w3 h))
     have hok := items_ok (hIw w2 qa)
     clear hRw hIw hR0
     go_wp2_with fail
     refine (CI _ ?_).out.mono ?_
     ·exact qa.alloc (by omega) _
     clear CI
     rintro e w3 ⟨⟨v3, rfl, hown3⟩, hb3⟩
     have h3 : Below (w.heap.size + 1) (w.alloc (.cells #[.int .i64 0, .int .i64 0, .string ⟨#[]⟩, .bool false, .int .i64 0] 26)) w3 := (h2.alloc (by omega) _).trans (hb3.mono (by simp; omega))
     have hz3 := h3.size
     simp only [World.size_alloc] at hz3
     have g3 : Below w.heap.size w w3 := b0.trans (h3.mono (by omega))
     have l3 : w.heap.size < w3.heap.size := by omega
     clear hb3
     obtain ⟨A3, cap3, rfl, hrd3⟩ := own_rdv hown3
     obtain ⟨hr0, hr1, hr2, hr3, hr4, hs0, hs1, hs2, hs3, hs4⟩ := res5 h3
     have CC := Lib.hid (r10fold_MAX (itemsL l) hok (by omega) w3 A3 cap3 hrd3)
     generalize hans : faultR (itemsL l) (someR (numsL (itemsL l)) (Lib.maxOf (numsL (itemsL l)))) = ans at *
     go_wp2_with (go_at_call 53; refine (CC.out).mono ?_; rintro e w9 ⟨rfl, hb⟩; obtain ⟨hc, hf, hz⟩ := bkeep hb w3.heap.size (by first | omega | (simp <;> omega)))
     refine bodyPost_ret (v := .agg #[.int .i64 (ans).t, .int .i64 (ans).n, .string (ans).s, .bool (ans).b, .int .i64 (ans).c]) ?_ rfl ⟨by rw [hcs.out], belq⟩
     simp [results, Tryz.results9, go_sem, *]
    |
     cAVG _ hl hN _ =>
     have CI : ∀ w3, Below w.heap.size w w3 → Hid (Calls Tryz.prog 42 #[.slice A l.length cap] w3 fun e w' => (∃ v, e = .returned v ∧ OwnV w' w3.heap.size v (itemsL l)) ∧ Below w3.heap.size w3 w') := fun w3 h => Lib.hid (r10items l (by omega) (by omega) w3 A cap (hRw w3 h) (hIw w3 h))
     have hok := items_ok (hIw w2 qa)
     clear hRw hIw hR0
     go_wp2_with fail
     refine (CI _ ?_).out.mono ?_
     ·exact qa.alloc (by omega) _
     clear CI
     rintro e w3 ⟨⟨v3, rfl, hown3⟩, hb3⟩
     have h3 : Below (w.heap.size + 1) (w.alloc (.cells #[.int .i64 0, .int .i64 0, .string ⟨#[]⟩, .bool false, .int .i64 0] 26)) w3 := (h2.alloc (by omega) _).trans (hb3.mono (by simp; omega))
     have hz3 := h3.size
     simp only [World.size_alloc] at hz3
     have g3 : Below w.heap.size w w3 := b0.trans (h3.mono (by omega))
     have l3 : w.heap.size < w3.heap.size := by omega
     clear hb3
     obtain ⟨A3, cap3, rfl, hrd3⟩ := own_rdv hown3
     obtain ⟨hr0, hr1, hr2, hr3, hr4, hs0, hs1, hs2, hs3, hs4⟩ := res5 h3
     have CC := Lib.hid (r10fold_AVG (itemsL l) hok (by omega) w3 A3 cap3 hrd3)
     generalize hans : faultR (itemsL l) (someR (numsL (itemsL l)) (meanL (numsL (itemsL l)))) = ans at *
     go_wp2_with (go_at_call 53; refine (CC.out).mono ?_; rintro e w9 ⟨rfl, hb⟩; obtain ⟨hc, hf, hz⟩ := bkeep hb w3.heap.size (by first | omega | (simp <;> omega)))
     refine bodyPost_ret (v := .agg #[.int .i64 (ans).t, .int .i64 (ans).n, .string (ans).s, .bool (ans).b, .int .i64 (ans).c]) ?_ rfl ⟨by rw [hcs.out], belq⟩
     simp [results, Tryz.results9, go_sem, *]
    |
     cMEDIAN _ hl hN _ =>
     have CI : ∀ w3, Below w.heap.size w w3 → Hid (Calls Tryz.prog 42 #[.slice A l.length cap] w3 fun e w' => (∃ v, e = .returned v ∧ OwnV w' w3.heap.size v (itemsL l)) ∧ Below w3.heap.size w3 w') := fun w3 h => Lib.hid (r10items l (by omega) (by omega) w3 A cap (hRw w3 h) (hIw w3 h))
     have hok := items_ok (hIw w2 qa)
     clear hRw hIw hR0
     go_wp2_with fail
     refine (CI _ ?_).out.mono ?_
     ·exact qa.alloc (by omega) _
     clear CI
     rintro e w3 ⟨⟨v3, rfl, hown3⟩, hb3⟩
     have h3 : Below (w.heap.size + 1) (w.alloc (.cells #[.int .i64 0, .int .i64 0, .string ⟨#[]⟩, .bool false, .int .i64 0] 26)) w3 := (h2.alloc (by omega) _).trans (hb3.mono (by simp; omega))
     have hz3 := h3.size
     simp only [World.size_alloc] at hz3
     have g3 : Below w.heap.size w w3 := b0.trans (h3.mono (by omega))
     have l3 : w.heap.size < w3.heap.size := by omega
     clear hb3
     obtain ⟨A3, cap3, rfl, hrd3⟩ := own_rdv hown3
     obtain ⟨hr0, hr1, hr2, hr3, hr4, hs0, hs1, hs2, hs3, hs4⟩ := res5 h3
     have CC := Lib.hid (r10fold_MEDIAN (itemsL l) hok (by omega) w3 A3 cap3 hrd3)
     generalize hans : faultR (itemsL l) (someR (numsL (itemsL l)) (medianL (numsL (itemsL l)))) = ans at *
     go_wp2_with (go_at_call 53; refine (CC.out).mono ?_; rintro e w9 ⟨rfl, hb⟩; obtain ⟨hc, hf, hz⟩ := bkeep hb w3.heap.size (by first | omega | (simp <;> omega)))
     refine bodyPost_ret (v := .agg #[.int .i64 (ans).t, .int .i64 (ans).n, .string (ans).s, .bool (ans).b, .int .i64 (ans).c]) ?_ rfl ⟨by rw [hcs.out], belq⟩
     simp [results, Tryz.results9, go_sem, *]
    |
     cCOUNT _ hl hN _ =>
     have CI : ∀ w3, Below w.heap.size w w3 → Hid (Calls Tryz.prog 42 #[.slice A l.length cap] w3 fun e w' => (∃ v, e = .returned v ∧ OwnV w' w3.heap.size v (itemsL l)) ∧ Below w3.heap.size w3 w') := fun w3 h => Lib.hid (r10items l (by omega) (by omega) w3 A cap (hRw w3 h) (hIw w3 h))
     have hok := items_ok (hIw w2 qa)
     clear hRw hIw hR0
     go_wp2_with fail
     refine (CI _ ?_).out.mono ?_
     ·exact qa.alloc (by omega) _
     clear CI
     rintro e w3 ⟨⟨v3, rfl, hown3⟩, hb3⟩
     have h3 : Below (w.heap.size + 1) (w.alloc (.cells #[.int .i64 0, .int .i64 0, .string ⟨#[]⟩, .bool false, .int .i64 0] 26)) w3 := (h2.alloc (by omega) _).trans (hb3.mono (by simp; omega))
     have hz3 := h3.size
     simp only [World.size_alloc] at hz3
     have g3 : Below w.heap.size w w3 := b0.trans (h3.mono (by omega))
     have l3 : w.heap.size < w3.heap.size := by omega
     clear hb3
     obtain ⟨A3, cap3, rfl, hrd3⟩ := own_rdv hown3
     obtain ⟨hr0, hr1, hr2, hr3, hr4, hs0, hs1, hs2, hs3, hs4⟩ := res5 h3
     have CC := Lib.hid (r10counts_COUNT (itemsL l) (by omega) w3 A3 cap3 hrd3)
     go_wp2_with (go_at_call 41; refine (CC.out).mono ?_; rintro e w9 ⟨rfl, hb⟩; obtain ⟨hc, hf, hz⟩ := bkeep hb w3.heap.size (by first | omega | (simp <;> omega)))
     refine bodyPost_ret (v := .agg #[.int .i64 ((numL (((itemsL l).countP (fun v => decide (v.t = 1)) : Nat) * 10000))).t, .int .i64 ((numL (((itemsL l).countP (fun v => decide (v.t = 1)) : Nat) * 10000))).n, .string ((numL (((itemsL l).countP (fun v => decide (v.t = 1)) : Nat) * 10000))).s, .bool ((numL (((itemsL l).countP (fun v => decide (v.t = 1)) : Nat) * 10000))).b, .int .i64 ((numL (((itemsL l).countP (fun v => decide (v.t = 1)) : Nat) * 10000))).c]) ?_ rfl ⟨by rw [hcs.out], belq⟩
     simp [results, Tryz.results9, go_sem, *]
    |
     cCOUNTA _ hl hN _ =>
     have CI : ∀ w3, Below w.heap.size w w3 → Hid (Calls Tryz.prog 42 #[.slice A l.length cap] w3 fun e w' => (∃ v, e = .returned v ∧ OwnV w' w3.heap.size v (itemsL l)) ∧ Below w3.heap.size w3 w') := fun w3 h => Lib.hid (r10items l (by omega) (by omega) w3 A cap (hRw w3 h) (hIw w3 h))
     have hok := items_ok (hIw w2 qa)
     clear hRw hIw hR0
     go_wp2_with fail
     refine (CI _ ?_).out.mono ?_
     ·exact qa.alloc (by omega) _
     clear CI
     rintro e w3 ⟨⟨v3, rfl, hown3⟩, hb3⟩
     have h3 : Below (w.heap.size + 1) (w.alloc (.cells #[.int .i64 0, .int .i64 0, .string ⟨#[]⟩, .bool false, .int .i64 0] 26)) w3 := (h2.alloc (by omega) _).trans (hb3.mono (by simp; omega))
     have hz3 := h3.size
     simp only [World.size_alloc] at hz3
     have g3 : Below w.heap.size w w3 := b0.trans (h3.mono (by omega))
     have l3 : w.heap.size < w3.heap.size := by omega
     clear hb3
     obtain ⟨A3, cap3, rfl, hrd3⟩ := own_rdv hown3
     obtain ⟨hr0, hr1, hr2, hr3, hr4, hs0, hs1, hs2, hs3, hs4⟩ := res5 h3
     have CC := Lib.hid (r10counts_COUNTA (itemsL l) (by omega) w3 A3 cap3 hrd3)
     go_wp2_with (go_at_call 41; refine (CC.out).mono ?_; rintro e w9 ⟨rfl, hb⟩; obtain ⟨hc, hf, hz⟩ := bkeep hb w3.heap.size (by first | omega | (simp <;> omega)))
     refine bodyPost_ret (v := .agg #[.int .i64 ((numL (((itemsL l).countP (fun v => !decide (v.t = 0)) : Nat) * 10000))).t, .int .i64 ((numL (((itemsL l).countP (fun v => !decide (v.t = 0)) : Nat) * 10000))).n, .string ((numL (((itemsL l).countP (fun v => !decide (v.t = 0)) : Nat) * 10000))).s, .bool ((numL (((itemsL l).countP (fun v => !decide (v.t = 0)) : Nat) * 10000))).b, .int .i64 ((numL (((itemsL l).countP (fun v => !decide (v.t = 0)) : Nat) * 10000))).c]) ?_ rfl ⟨by rw [hcs.out], belq⟩
     simp [results, Tryz.results9, go_sem, *]
    |
     cBLANKS x0 m0 e0 =>
     obtain ⟨ab, ao, hA3, hab, _⟩ := hR0.out 0 x0.cs rfl
     obtain rfl : A = some ⟨ab, ao, none⟩ := hA3
     have habw : ab < w2.heap.size := by omega
     have habn : ab ≠ w2.heap.size := by omega
     have habz : ab ≠ w.heap.size := by omega
     have hC0 : ∀ (j : Nat) (u : Value), x0.cs[j]? = some u → w2.cell? ⟨ab, ao + 0 * 11 + j, none⟩ = some u := by
      obtain ⟨b9, o9, e9, _, hc9⟩ := (hR0.out.below qa) 0 x0.cs rfl
      cases e9
      exact hc9
     obtain ⟨y0_0, y0_1, y0_2, y0_3, y0_4, y0_5, y0_6, y0_7, y0_8, y0_9, y0_10⟩ := cs11_0 hC0
     clear hC0
     have hI0 : ∀ w3, Below w.heap.size w w3 → x0.In w3 w3.heap.size := fun w3 h => hIw w3 h x0 (by simp)
     have CC := fun w3 (h : Below w.heap.size w w3) => Lib.hid (r10counted x0 v0 m0 (by have := ent_len m0 e0; omega) w3 (hI0 w3 h))
     have hcc := cnt_cif e0 (v := v0) (by decide +kernel)
     have hcw := cntW_in m0 e0 v0
     have CQ := fun w3 => Lib.hid (r10whole (cntW x0 v0) (by omega) w3)
     rw [hcc] at hcs
     generalize cntW x0 v0 = z at *
     clear hRw hIw hR0 hI0 hcc hcw
     go_wp2_with fail
     refine (CC _ ?_).out.mono ?_
     ·exact qa.alloc (by omega) _
     clear CC
     rintro e w3 ⟨rfl, hb3⟩
     have h3 : Below (w.heap.size + 1) (w.alloc (.cells #[.int .i64 0, .int .i64 0, .string ⟨#[]⟩, .bool false, .int .i64 0] 26)) w3 := (h2.alloc (by omega) _).trans (hb3.mono (by simp; omega))
     have hz3 := h3.size
     simp only [World.size_alloc] at hz3
     have g3 : Below w.heap.size w w3 := b0.trans (h3.mono (by omega))
     have l3 : w.heap.size < w3.heap.size := by omega
     clear hb3
     clear y0_0 y0_1 y0_2 y0_3 y0_4 y0_5 y0_6 y0_7 y0_8 y0_9 y0_10
     obtain ⟨hr0, hr1, hr2, hr3, hr4, hs0, hs1, hs2, hs3, hs4⟩ := res5 h3
     go_wp2_with (go_at_call 43; refine ((CQ _).out).mono ?_; rintro e w9 ⟨rfl, hb⟩; obtain ⟨hc, hf, hz⟩ := bkeep hb w3.heap.size (by first | omega | (simp <;> omega)))
     refine bodyPost_ret (v := .agg #[.int .i64 ((numL (z * 10000))).t, .int .i64 ((numL (z * 10000))).n, .string ((numL (z * 10000))).s, .bool ((numL (z * 10000))).b, .int .i64 ((numL (z * 10000))).c]) ?_ rfl ⟨by rw [hcs.out], belq⟩
     simp [results, Tryz.results9, go_sem, *]
    |
     cCOUNTIF x0 x1 m0 e0 m1 =>
     obtain ⟨ab, ao, hA3, hab, _⟩ := hR0.out 0 x0.cs rfl
     obtain rfl : A = some ⟨ab, ao, none⟩ := hA3
     have habw : ab < w2.heap.size := by omega
     have habn : ab ≠ w2.heap.size := by omega
     have habz : ab ≠ w.heap.size := by omega
     have hC0 : ∀ (j : Nat) (u : Value), x0.cs[j]? = some u → w2.cell? ⟨ab, ao + 0 * 11 + j, none⟩ = some u := by
      obtain ⟨b9, o9, e9, _, hc9⟩ := (hR0.out.below qa) 0 x0.cs rfl
      cases e9
      exact hc9
     obtain ⟨y0_0, y0_1, y0_2, y0_3, y0_4, y0_5, y0_6, y0_7, y0_8, y0_9, y0_10⟩ := cs11_0 hC0
     clear hC0
     have hC1 : ∀ (j : Nat) (u : Value), x1.cs[j]? = some u → w2.cell? ⟨ab, ao + 1 * 11 + j, none⟩ = some u := by
      obtain ⟨b9, o9, e9, _, hc9⟩ := (hR0.out.below qa) 1 x1.cs rfl
      cases e9
      exact hc9
     obtain ⟨y1_1, y1_2, y1_3, y1_4, y1_5⟩ := cs5_1 hC1
     clear hC1
     have hI0 : ∀ w3, Below w.heap.size w w3 → x0.In w3 w3.heap.size := fun w3 h => hIw w3 h x0 (by simp)
     have hI1 : ∀ w3, Below w.heap.size w w3 → x1.In w3 w3.heap.size := fun w3 h => hIw w3 h x1 (by simp)
     have hres : ResAt w2 w.heap.size 5 := ResAt.below (ResAt.new5 w _ _ _ _ _ 26) h2 (by omega)
     have CC := fun w3 (h : Below w.heap.size w w3) => Lib.hid (r10counted x0 x1.v m0 (by have := ent_len m0 e0; omega) w3 (hI0 w3 h))
     have hcc := cnt_cif e0 m1
     have hcw := cntW_in m0 e0 x1.v
     have CQ := fun w3 => Lib.hid (r10whole (cntW x0 x1.v) (by omega) w3)
     rw [hcc] at hcs
     generalize cntW x0 x1.v = z at *
     clear hRw hIw hR0 hI0 hI1 hcc hcw
     simp only [List.length_cons, List.length_nil, Nat.zero_add, Nat.reduceAdd]
     go_wp2_with fail
     first | (go_loud (go_region_held3 (fun w' => w'.cell? ⟨ab, ao, none⟩ = some (.bool x0.many) ∧ w'.cell? ⟨ab, ao + 1, none⟩ = some (.int .i64 x0.v.t) ∧ w'.cell? ⟨ab, ao + 2, none⟩ = some (.int .i64 x0.v.n) ∧ w'.cell? ⟨ab, ao + 3, none⟩ = some (.string x0.v.s) ∧ w'.cell? ⟨ab, ao + 4, none⟩ = some (.bool x0.v.b) ∧ w'.cell? ⟨ab, ao + 5, none⟩ = some (.int .i64 x0.v.c) ∧ w'.cell? ⟨ab, ao + 6, none⟩ = some (.int .i64 x0.t) ∧ w'.cell? ⟨ab, ao + 7, none⟩ = some (.int .i64 x0.l) ∧ w'.cell? ⟨ab, ao + 8, none⟩ = some (.int .i64 x0.b) ∧ w'.cell? ⟨ab, ao + 9, none⟩ = some (.int .i64 x0.r) ∧ w'.cell? ⟨ab, ao + 10, none⟩ = some (.slice x0.A x0.es.length x0.cap) ∧ w'.cell? ⟨ab, ao + 11 + 1, none⟩ = some (.int .i64 x1.v.t) ∧ w'.cell? ⟨ab, ao + 11 + 2, none⟩ = some (.int .i64 x1.v.n) ∧ w'.cell? ⟨ab, ao + 11 + 3, none⟩ = some (.string x1.v.s) ∧ w'.cell? ⟨ab, ao + 11 + 4, none⟩ = some (.bool x1.v.b) ∧ w'.cell? ⟨ab, ao + 11 + 5, none⟩ = some (.int .i64 x1.v.c) ∧ ResAt w' (w.heap.size) 5 ∧ Below w.heap.size w w' ∧ w2.heap.size ≤ w'.heap.size)
      (first | (go_split_ands; exact ⟨(by simp [go_sem, *]), (by simp [go_sem, *]), (by simp [go_sem, *]), (by simp [go_sem, *]), (by simp [go_sem, *]), (by simp [go_sem, *]), (by simp [go_sem, *]), (by simp [go_sem, *]), (by simp [go_sem, *]), (by simp [go_sem, *]), (by simp [go_sem, *]), (by simp [go_sem, *]), (by simp [go_sem, *]), (by simp [go_sem, *]), (by simp [go_sem, *]), (by simp [go_sem, *]), (by first | (with_reducible exact ResAt.drew (ResAt.alloc (by assumption) _)) | (repeat (first | (with_reducible assumption) | (with_reducible refine ResAt.setCell ?_ _ _) | (with_reducible refine ResAt.drew ?_)))), (belq), (by first | (simp; done) | (simp; omega))⟩) | (exact ⟨(by simp [go_sem, *]), (by simp [go_sem, *]), (by simp [go_sem, *]), (by simp [go_sem, *]), (by simp [go_sem, *]), (by simp [go_sem, *]), (by simp [go_sem, *]), (by simp [go_sem, *]), (by simp [go_sem, *]), (by simp [go_sem, *]), (by simp [go_sem, *]), (by simp [go_sem, *]), (by simp [go_sem, *]), (by simp [go_sem, *]), (by simp [go_sem, *]), (by simp [go_sem, *]), (by first | (with_reducible exact ResAt.drew (ResAt.alloc (by assumption) _)) | (repeat (first | (with_reducible assumption) | (with_reducible refine ResAt.setCell ?_ _ _) | (with_reducible refine ResAt.drew ?_)))), (belq), (by first | (simp; done) | (simp; omega))⟩) | exact hk1)
      (first | (go_at_call 44; (try dsimp only at *); go_split_ands; refine ((CC _ (by assumption)).out).mono ?_; rintro e w1 ⟨rfl, hb⟩) | (go_at_call 43; refine ((CQ _).out).mono ?_; rintro e w1 ⟨rfl, hb⟩)))) | fail "region"
     go_split_ands
     go_wp2
     try simp only [resAt_setCell] at *
     refine bodyPost_ret (v := .agg #[.int .i64 ((numL (z * 10000))).t, .int .i64 ((numL (z * 10000))).n, .string ((numL (z * 10000))).s, .bool ((numL (z * 10000))).b, .int .i64 ((numL (z * 10000))).c]) ?_ rfl ⟨by rw [hcs.out], by first | assumption | (go_split_ands; first | assumption | exact belq) | exact belq⟩
     simp [results, Tryz.results9, go_sem, *]
    |
     cSUMIF x0 x1 x2 m0 e0 m1 m2 e2 =>
     obtain ⟨ab, ao, hA3, hab, _⟩ := hR0.out 0 x0.cs rfl
     obtain rfl : A = some ⟨ab, ao, none⟩ := hA3
     have habw : ab < w2.heap.size := by omega
     have habn : ab ≠ w2.heap.size := by omega
     have habz : ab ≠ w.heap.size := by omega
     have hC0 : ∀ (j : Nat) (u : Value), x0.cs[j]? = some u → w2.cell? ⟨ab, ao + 0 * 11 + j, none⟩ = some u := by
      obtain ⟨b9, o9, e9, _, hc9⟩ := (hR0.out.below qa) 0 x0.cs rfl
      cases e9
      exact hc9
     obtain ⟨y0_0, y0_1, y0_2, y0_3, y0_4, y0_5, y0_6, y0_7, y0_8, y0_9, y0_10⟩ := cs11_0 hC0
     clear hC0
     have hC1 : ∀ (j : Nat) (u : Value), x1.cs[j]? = some u → w2.cell? ⟨ab, ao + 1 * 11 + j, none⟩ = some u := by
      obtain ⟨b9, o9, e9, _, hc9⟩ := (hR0.out.below qa) 1 x1.cs rfl
      cases e9
      exact hc9
     obtain ⟨y1_1, y1_2, y1_3, y1_4, y1_5⟩ := cs5_1 hC1
     clear hC1
     have hC2 : ∀ (j : Nat) (u : Value), x2.cs[j]? = some u → w2.cell? ⟨ab, ao + 2 * 11 + j, none⟩ = some u := by
      obtain ⟨b9, o9, e9, _, hc9⟩ := (hR0.out.below qa) 2 x2.cs rfl
      cases e9
      exact hc9
     obtain ⟨y2_0, y2_1, y2_2, y2_3, y2_4, y2_5, y2_6, y2_7, y2_8, y2_9, y2_10⟩ := cs11_2 hC2
     clear hC2
     have hI0 : ∀ w3, Below w.heap.size w w3 → x0.In w3 w3.heap.size := fun w3 h => hIw w3 h x0 (by simp)
     have hI1 : ∀ w3, Below w.heap.size w w3 → x1.In w3 w3.heap.size := fun w3 h => hIw w3 h x1 (by simp)
     have hI2 : ∀ w3, Below w.heap.size w w3 → x2.In w3 w3.heap.size := fun w3 h => hIw w3 h x2 (by simp)
     have hres : ResAt w2 w.heap.size 5 := ResAt.below (ResAt.new5 w _ _ _ _ _ 26) h2 (by omega)
     have CC := fun w3 (h : Below w.heap.size w w3) => Lib.hid (r10sumif x0 x2 x1.v m0 e0 m2 e2 w3 (hI0 w3 h) (hI2 w3 h))
     generalize sumifR x0 x1.v x2 = ans at *
     clear hRw hIw hR0 hI0 hI1 hI2
     simp only [List.length_cons, List.length_nil, Nat.zero_add, Nat.reduceAdd]
     go_wp2_with fail
     first | (go_loud (go_region_held3 (fun w' => w'.cell? ⟨ab, ao, none⟩ = some (.bool x0.many) ∧ w'.cell? ⟨ab, ao + 1, none⟩ = some (.int .i64 x0.v.t) ∧ w'.cell? ⟨ab, ao + 2, none⟩ = some (.int .i64 x0.v.n) ∧ w'.cell? ⟨ab, ao + 3, none⟩ = some (.string x0.v.s) ∧ w'.cell? ⟨ab, ao + 4, none⟩ = some (.bool x0.v.b) ∧ w'.cell? ⟨ab, ao + 5, none⟩ = some (.int .i64 x0.v.c) ∧ w'.cell? ⟨ab, ao + 6, none⟩ = some (.int .i64 x0.t) ∧ w'.cell? ⟨ab, ao + 7, none⟩ = some (.int .i64 x0.l) ∧ w'.cell? ⟨ab, ao + 8, none⟩ = some (.int .i64 x0.b) ∧ w'.cell? ⟨ab, ao + 9, none⟩ = some (.int .i64 x0.r) ∧ w'.cell? ⟨ab, ao + 10, none⟩ = some (.slice x0.A x0.es.length x0.cap) ∧ w'.cell? ⟨ab, ao + 11 + 1, none⟩ = some (.int .i64 x1.v.t) ∧ w'.cell? ⟨ab, ao + 11 + 2, none⟩ = some (.int .i64 x1.v.n) ∧ w'.cell? ⟨ab, ao + 11 + 3, none⟩ = some (.string x1.v.s) ∧ w'.cell? ⟨ab, ao + 11 + 4, none⟩ = some (.bool x1.v.b) ∧ w'.cell? ⟨ab, ao + 11 + 5, none⟩ = some (.int .i64 x1.v.c) ∧ w'.cell? ⟨ab, ao + 22, none⟩ = some (.bool x2.many) ∧ w'.cell? ⟨ab, ao + 22 + 1, none⟩ = some (.int .i64 x2.v.t) ∧ w'.cell? ⟨ab, ao + 22 + 2, none⟩ = some (.int .i64 x2.v.n) ∧ w'.cell? ⟨ab, ao + 22 + 3, none⟩ = some (.string x2.v.s) ∧ w'.cell? ⟨ab, ao + 22 + 4, none⟩ = some (.bool x2.v.b) ∧ w'.cell? ⟨ab, ao + 22 + 5, none⟩ = some (.int .i64 x2.v.c) ∧ w'.cell? ⟨ab, ao + 22 + 6, none⟩ = some (.int .i64 x2.t) ∧ w'.cell? ⟨ab, ao + 22 + 7, none⟩ = some (.int .i64 x2.l) ∧ w'.cell? ⟨ab, ao + 22 + 8, none⟩ = some (.int .i64 x2.b) ∧ w'.cell? ⟨ab, ao + 22 + 9, none⟩ = some (.int .i64 x2.r) ∧ w'.cell? ⟨ab, ao + 22 + 10, none⟩ = some (.slice x2.A x2.es.length x2.cap) ∧ ResAt w' (w.heap.size) 5 ∧ Below w.heap.size w w' ∧ w2.heap.size ≤ w'.heap.size)
      (first | (go_split_ands; exact ⟨(by simp [go_sem, *]), (by simp [go_sem, *]), (by simp [go_sem, *]), (by simp [go_sem, *]), (by simp [go_sem, *]), (by simp [go_sem, *]), (by simp [go_sem, *]), (by simp [go_sem, *]), (by simp [go_sem, *]), (by simp [go_sem, *]), (by simp [go_sem, *]), (by simp [go_sem, *]), (by simp [go_sem, *]), (by simp [go_sem, *]), (by simp [go_sem, *]), (by simp [go_sem, *]), (by simp [go_sem, *]), (by simp [go_sem, *]), (by simp [go_sem, *]), (by simp [go_sem, *]), (by simp [go_sem, *]), (by simp [go_sem, *]), (by simp [go_sem, *]), (by simp [go_sem, *]), (by simp [go_sem, *]), (by simp [go_sem, *]), (by simp [go_sem, *]), (by first | (with_reducible exact ResAt.drew (ResAt.alloc (by assumption) _)) | (repeat (first | (with_reducible assumption) | (with_reducible refine ResAt.setCell ?_ _ _) | (with_reducible refine ResAt.drew ?_)))), (belq), (by first | (simp; done) | (simp; omega))⟩) | (exact ⟨(by simp [go_sem, *]), (by simp [go_sem, *]), (by simp [go_sem, *]), (by simp [go_sem, *]), (by simp [go_sem, *]), (by simp [go_sem, *]), (by simp [go_sem, *]), (by simp [go_sem, *]), (by simp [go_sem, *]), (by simp [go_sem, *]), (by simp [go_sem, *]), (by simp [go_sem, *]), (by simp [go_sem, *]), (by simp [go_sem, *]), (by simp [go_sem, *]), (by simp [go_sem, *]), (by simp [go_sem, *]), (by simp [go_sem, *]), (by simp [go_sem, *]), (by simp [go_sem, *]), (by simp [go_sem, *]), (by simp [go_sem, *]), (by simp [go_sem, *]), (by simp [go_sem, *]), (by simp [go_sem, *]), (by simp [go_sem, *]), (by simp [go_sem, *]), (by first | (with_reducible exact ResAt.drew (ResAt.alloc (by assumption) _)) | (repeat (first | (with_reducible assumption) | (with_reducible refine ResAt.setCell ?_ _ _) | (with_reducible refine ResAt.drew ?_)))), (belq), (by first | (simp; done) | (simp; omega))⟩) | exact hk1)
      (first | (go_at_call 45; (try dsimp only at *); go_split_ands; refine ((CC _ (by assumption)).out).mono ?_; rintro e w1 ⟨rfl, hb⟩)))) | fail "region"
     go_split_ands
     go_wp2
     try simp only [resAt_setCell] at *
     refine bodyPost_ret (v := .agg #[.int .i64 (ans).t, .int .i64 (ans).n, .string (ans).s, .bool (ans).b, .int .i64 (ans).c]) ?_ rfl ⟨by rw [hcs.out], by first | assumption | (go_split_ands; first | assumption | exact belq) | exact belq⟩
     simp [results, Tryz.results9, go_sem, *]
    |
     cMATCH x0 x1 m0 m1 e1 =>
     have CC := fun w3 (h : Below w.heap.size w w3) => Lib.hid (r10look2 x0 x1 m1 e1 w3 A cap (hRw w3 h) (hIw w3 h))
     have hVe : V = (if (decide (1 < rowsL x1) && decide (1 < colsL x1)) = true then errL 8 else lookR2 x0.v x1) := hcs.out
     generalize (if (decide (1 < rowsL x1) && decide (1 < colsL x1)) = true then errL 8 else lookR2 x0.v x1) = ans at *
     have hVe' := Lib.hid hVe
     clear hRw hIw hR0 hVe hcs
     obtain ⟨hr0, hr1, hr2, hr3, hr4, hs0, hs1, hs2, hs3, hs4⟩ := res5 h2
     simp only [List.length_cons, List.length_nil, Nat.zero_add, Nat.reduceAdd]
     go_wp2_with (refine (CC _ ?_).out.mono ?_; (first | exact qa.alloc (by omega) _); rintro e w9 ⟨rfl, hb⟩; obtain ⟨hc, hf, hz⟩ := bkeep hb w2.heap.size (by first | omega | (simp <;> omega)))
     refine bodyPost_ret (v := .agg #[.int .i64 (ans).t, .int .i64 (ans).n, .string (ans).s, .bool (ans).b, .int .i64 (ans).c]) ?_ rfl ⟨by rw [hVe'.out], belq⟩
     simp [results, Tryz.results9, go_sem, *]
    |
     cLOOKUP x0 x1 x2 m0 m1 e1 m2 e2 =>
     have CC := fun w3 (h : Below w.heap.size w w3) => Lib.hid (r10look3 x0 x1 x2 m1 e1 m2 e2 w3 A cap (hRw w3 h) (hIw w3 h))
     have hVe : V = (if ((decide (1 < rowsL x1) && decide (1 < colsL x1)) || !(decide (rowsL x1 = rowsL x2) && decide (colsL x1 = colsL x2))) = true then errL 8 else lookR3 x0.v x1 x2) := hcs.out
     generalize (if ((decide (1 < rowsL x1) && decide (1 < colsL x1)) || !(decide (rowsL x1 = rowsL x2) && decide (colsL x1 = colsL x2))) = true then errL 8 else lookR3 x0.v x1 x2) = ans at *
     have hVe' := Lib.hid hVe
     clear hRw hIw hR0 hVe hcs
     obtain ⟨hr0, hr1, hr2, hr3, hr4, hs0, hs1, hs2, hs3, hs4⟩ := res5 h2
     simp only [List.length_cons, List.length_nil, Nat.zero_add, Nat.reduceAdd]
     go_wp2_with (refine (CC _ ?_).out.mono ?_; (first | exact qa.alloc (by omega) _); rintro e w9 ⟨rfl, hb⟩; obtain ⟨hc, hf, hz⟩ := bkeep hb w2.heap.size (by first | omega | (simp <;> omega)))
     refine bodyPost_ret (v := .agg #[.int .i64 (ans).t, .int .i64 (ans).n, .string (ans).s, .bool (ans).b, .int .i64 (ans).c]) ?_ rfl ⟨by rw [hVe'.out], belq⟩
     simp [results, Tryz.results9, go_sem, *]
    |
     cINDEX x0 x1 x2 m0 e0 m1 m2 =>
     obtain ⟨ab, ao, hA3, hab, _⟩ := hR0.out 0 x0.cs rfl
     obtain rfl : A = some ⟨ab, ao, none⟩ := hA3
     have habw : ab < w2.heap.size := by omega
     have habn : ab ≠ w2.heap.size := by omega
     have habz : ab ≠ w.heap.size := by omega
     have hC0 : ∀ (j : Nat) (u : Value), x0.cs[j]? = some u → w2.cell? ⟨ab, ao + 0 * 11 + j, none⟩ = some u := by
      obtain ⟨b9, o9, e9, _, hc9⟩ := (hR0.out.below qa) 0 x0.cs rfl
      cases e9
      exact hc9
     obtain ⟨y0_0, y0_1, y0_2, y0_3, y0_4, y0_5, y0_6, y0_7, y0_8, y0_9, y0_10⟩ := cs11_0 hC0
     clear hC0
     have hC1 : ∀ (j : Nat) (u : Value), x1.cs[j]? = some u → w2.cell? ⟨ab, ao + 1 * 11 + j, none⟩ = some u := by
      obtain ⟨b9, o9, e9, _, hc9⟩ := (hR0.out.below qa) 1 x1.cs rfl
      cases e9
      exact hc9
     obtain ⟨y1_1, y1_2, y1_3, y1_4, y1_5⟩ := cs5_1 hC1
     clear hC1
     have hC2 : ∀ (j : Nat) (u : Value), x2.cs[j]? = some u → w2.cell? ⟨ab, ao + 2 * 11 + j, none⟩ = some u := by
      obtain ⟨b9, o9, e9, _, hc9⟩ := (hR0.out.below qa) 2 x2.cs rfl
      cases e9
      exact hc9
     obtain ⟨y2_1, y2_2, y2_3, y2_4, y2_5⟩ := cs5_2 hC2
     clear hC2
     have hI0 : ∀ w3, Below w.heap.size w w3 → x0.In w3 w3.heap.size := fun w3 h => hIw w3 h x0 (by simp)
     have hI1 : ∀ w3, Below w.heap.size w w3 → x1.In w3 w3.heap.size := fun w3 h => hIw w3 h x1 (by simp)
     have hI2 : ∀ w3, Below w.heap.size w w3 → x2.In w3 w3.heap.size := fun w3 h => hIw w3 h x2 (by simp)
     have hres : ResAt w2 w.heap.size 5 := ResAt.below (ResAt.new5 w _ _ _ _ _ 26) h2 (by omega)
     have CC := fun w3 (h : Below w.heap.size w w3) => Lib.hid (r10index x0 x1.v x2.v m0 e0 (hI1 w2 qa).1 (hI2 w2 qa).1 w3 (hI0 w3 h))
     have hVe : V = indexV x0 x1.v x2.v := hcs.out
     have hcs := Lib.hid hVe
     clear hVe
     generalize indexV x0 x1.v x2.v = ans at *
     clear hRw hIw hR0 hI0 hI1 hI2
     simp only [List.length_cons, List.length_nil, Nat.zero_add, Nat.reduceAdd]
     go_wp2_with fail
     first | (go_loud (go_region_held3 (fun w' => w'.cell? ⟨ab, ao, none⟩ = some (.bool x0.many) ∧ w'.cell? ⟨ab, ao + 1, none⟩ = some (.int .i64 x0.v.t) ∧ w'.cell? ⟨ab, ao + 2, none⟩ = some (.int .i64 x0.v.n) ∧ w'.cell? ⟨ab, ao + 3, none⟩ = some (.string x0.v.s) ∧ w'.cell? ⟨ab, ao + 4, none⟩ = some (.bool x0.v.b) ∧ w'.cell? ⟨ab, ao + 5, none⟩ = some (.int .i64 x0.v.c) ∧ w'.cell? ⟨ab, ao + 6, none⟩ = some (.int .i64 x0.t) ∧ w'.cell? ⟨ab, ao + 7, none⟩ = some (.int .i64 x0.l) ∧ w'.cell? ⟨ab, ao + 8, none⟩ = some (.int .i64 x0.b) ∧ w'.cell? ⟨ab, ao + 9, none⟩ = some (.int .i64 x0.r) ∧ w'.cell? ⟨ab, ao + 10, none⟩ = some (.slice x0.A x0.es.length x0.cap) ∧ w'.cell? ⟨ab, ao + 11 + 1, none⟩ = some (.int .i64 x1.v.t) ∧ w'.cell? ⟨ab, ao + 11 + 2, none⟩ = some (.int .i64 x1.v.n) ∧ w'.cell? ⟨ab, ao + 11 + 3, none⟩ = some (.string x1.v.s) ∧ w'.cell? ⟨ab, ao + 11 + 4, none⟩ = some (.bool x1.v.b) ∧ w'.cell? ⟨ab, ao + 11 + 5, none⟩ = some (.int .i64 x1.v.c) ∧ w'.cell? ⟨ab, ao + 22 + 1, none⟩ = some (.int .i64 x2.v.t) ∧ w'.cell? ⟨ab, ao + 22 + 2, none⟩ = some (.int .i64 x2.v.n) ∧ w'.cell? ⟨ab, ao + 22 + 3, none⟩ = some (.string x2.v.s) ∧ w'.cell? ⟨ab, ao + 22 + 4, none⟩ = some (.bool x2.v.b) ∧ w'.cell? ⟨ab, ao + 22 + 5, none⟩ = some (.int .i64 x2.v.c) ∧ ResAt w' (w.heap.size) 5 ∧ Below w.heap.size w w' ∧ w2.heap.size ≤ w'.heap.size)
      (first | (go_split_ands; exact ⟨(by simp [go_sem, *]), (by simp [go_sem, *]), (by simp [go_sem, *]), (by simp [go_sem, *]), (by simp [go_sem, *]), (by simp [go_sem, *]), (by simp [go_sem, *]), (by simp [go_sem, *]), (by simp [go_sem, *]), (by simp [go_sem, *]), (by simp [go_sem, *]), (by simp [go_sem, *]), (by simp [go_sem, *]), (by simp [go_sem, *]), (by simp [go_sem, *]), (by simp [go_sem, *]), (by simp [go_sem, *]), (by simp [go_sem, *]), (by simp [go_sem, *]), (by simp [go_sem, *]), (by simp [go_sem, *]), (by first | (with_reducible exact ResAt.drew (ResAt.alloc (by assumption) _)) | (repeat (first | (with_reducible assumption) | (with_reducible refine ResAt.setCell ?_ _ _) | (with_reducible refine ResAt.drew ?_)))), (belq), (by first | (simp; done) | (simp; omega))⟩) | (exact ⟨(by simp [go_sem, *]), (by simp [go_sem, *]), (by simp [go_sem, *]), (by simp [go_sem, *]), (by simp [go_sem, *]), (by simp [go_sem, *]), (by simp [go_sem, *]), (by simp [go_sem, *]), (by simp [go_sem, *]), (by simp [go_sem, *]), (by simp [go_sem, *]), (by simp [go_sem, *]), (by simp [go_sem, *]), (by simp [go_sem, *]), (by simp [go_sem, *]), (by simp [go_sem, *]), (by simp [go_sem, *]), (by simp [go_sem, *]), (by simp [go_sem, *]), (by simp [go_sem, *]), (by simp [go_sem, *]), (by first | (with_reducible exact ResAt.drew (ResAt.alloc (by assumption) _)) | (repeat (first | (with_reducible assumption) | (with_reducible refine ResAt.setCell ?_ _ _) | (with_reducible refine ResAt.drew ?_)))), (belq), (by first | (simp; done) | (simp; omega))⟩) | exact hk1)
      (first | (go_at_call 47; (try dsimp only at *); go_split_ands; refine ((CC _ (by assumption)).out).mono ?_; rintro e w1 ⟨rfl, hb⟩)))) | fail "region"
     go_split_ands
     go_wp2
     try simp only [resAt_setCell] at *
     refine bodyPost_ret (v := .agg #[.int .i64 (ans).t, .int .i64 (ans).n, .string (ans).s, .bool (ans).b, .int .i64 (ans).c]) ?_ rfl ⟨by rw [hcs.out], by first | assumption | (go_split_ands; first | assumption | exact belq) | exact belq⟩
     simp [results, Tryz.results9, go_sem, *]
    |
     cLARGE x0 x1 m0 e0 m1 hN =>
     obtain ⟨ab, ao, hA3, hab, _⟩ := hR0.out 0 x0.cs rfl
     obtain rfl : A = some ⟨ab, ao, none⟩ := hA3
     have habw : ab < w2.heap.size := by omega
     have habn : ab ≠ w2.heap.size := by omega
     have habz : ab ≠ w.heap.size := by omega
     have hC0 : ∀ (j : Nat) (u : Value), x0.cs[j]? = some u → w2.cell? ⟨ab, ao + 0 * 11 + j, none⟩ = some u := by
      obtain ⟨b9, o9, e9, _, hc9⟩ := (hR0.out.below qa) 0 x0.cs rfl
      cases e9
      exact hc9
     obtain ⟨y0_0, y0_1, y0_2, y0_3, y0_4, y0_5, y0_6, y0_7, y0_8, y0_9, y0_10⟩ := cs11_0 hC0
     clear hC0
     have hC1 : ∀ (j : Nat) (u : Value), x1.cs[j]? = some u → w2.cell? ⟨ab, ao + 1 * 11 + j, none⟩ = some u := by
      obtain ⟨b9, o9, e9, _, hc9⟩ := (hR0.out.below qa) 1 x1.cs rfl
      cases e9
      exact hc9
     obtain ⟨y1_1, y1_2, y1_3, y1_4, y1_5⟩ := cs5_1 hC1
     clear hC1
     have hI0 : ∀ w3, Below w.heap.size w w3 → x0.In w3 w3.heap.size := fun w3 h => hIw w3 h x0 (by simp)
     have hI1 : ∀ w3, Below w.heap.size w w3 → x1.In w3 w3.heap.size := fun w3 h => hIw w3 h x1 (by simp)
     have hres : ResAt w2 w.heap.size 5 := ResAt.below (ResAt.new5 w _ _ _ _ _ 26) h2 (by omega)
     have CC := fun w3 (h : Below w.heap.size w w3) => Lib.hid (r10large x0 x1.v (hI1 w2 qa).1 (by omega) w3 (hI0 w3 h))
     have hVe : V = largeV x0 x1.v := hcs.out
     have hcs := Lib.hid hVe
     clear hVe
     generalize largeV x0 x1.v = ans at *
     clear hRw hIw hR0 hI0 hI1
     simp only [List.length_cons, List.length_nil, Nat.zero_add, Nat.reduceAdd]
     go_wp2_with fail
     first | (go_loud (go_region_held3 (fun w' => w'.cell? ⟨ab, ao, none⟩ = some (.bool x0.many) ∧ w'.cell? ⟨ab, ao + 1, none⟩ = some (.int .i64 x0.v.t) ∧ w'.cell? ⟨ab, ao + 2, none⟩ = some (.int .i64 x0.v.n) ∧ w'.cell? ⟨ab, ao + 3, none⟩ = some (.string x0.v.s) ∧ w'.cell? ⟨ab, ao + 4, none⟩ = some (.bool x0.v.b) ∧ w'.cell? ⟨ab, ao + 5, none⟩ = some (.int .i64 x0.v.c) ∧ w'.cell? ⟨ab, ao + 6, none⟩ = some (.int .i64 x0.t) ∧ w'.cell? ⟨ab, ao + 7, none⟩ = some (.int .i64 x0.l) ∧ w'.cell? ⟨ab, ao + 8, none⟩ = some (.int .i64 x0.b) ∧ w'.cell? ⟨ab, ao + 9, none⟩ = some (.int .i64 x0.r) ∧ w'.cell? ⟨ab, ao + 10, none⟩ = some (.slice x0.A x0.es.length x0.cap) ∧ w'.cell? ⟨ab, ao + 11 + 1, none⟩ = some (.int .i64 x1.v.t) ∧ w'.cell? ⟨ab, ao + 11 + 2, none⟩ = some (.int .i64 x1.v.n) ∧ w'.cell? ⟨ab, ao + 11 + 3, none⟩ = some (.string x1.v.s) ∧ w'.cell? ⟨ab, ao + 11 + 4, none⟩ = some (.bool x1.v.b) ∧ w'.cell? ⟨ab, ao + 11 + 5, none⟩ = some (.int .i64 x1.v.c) ∧ ResAt w' (w.heap.size) 5 ∧ Below w.heap.size w w' ∧ w2.heap.size ≤ w'.heap.size)
      (first | (go_split_ands; exact ⟨(by simp [go_sem, *]), (by simp [go_sem, *]), (by simp [go_sem, *]), (by simp [go_sem, *]), (by simp [go_sem, *]), (by simp [go_sem, *]), (by simp [go_sem, *]), (by simp [go_sem, *]), (by simp [go_sem, *]), (by simp [go_sem, *]), (by simp [go_sem, *]), (by simp [go_sem, *]), (by simp [go_sem, *]), (by simp [go_sem, *]), (by simp [go_sem, *]), (by simp [go_sem, *]), (by first | (with_reducible exact ResAt.drew (ResAt.alloc (by assumption) _)) | (repeat (first | (with_reducible assumption) | (with_reducible refine ResAt.setCell ?_ _ _) | (with_reducible refine ResAt.drew ?_)))), (belq), (by first | (simp; done) | (simp; omega))⟩) | (exact ⟨(by simp [go_sem, *]), (by simp [go_sem, *]), (by simp [go_sem, *]), (by simp [go_sem, *]), (by simp [go_sem, *]), (by simp [go_sem, *]), (by simp [go_sem, *]), (by simp [go_sem, *]), (by simp [go_sem, *]), (by simp [go_sem, *]), (by simp [go_sem, *]), (by simp [go_sem, *]), (by simp [go_sem, *]), (by simp [go_sem, *]), (by simp [go_sem, *]), (by simp [go_sem, *]), (by first | (with_reducible exact ResAt.drew (ResAt.alloc (by assumption) _)) | (repeat (first | (with_reducible assumption) | (with_reducible refine ResAt.setCell ?_ _ _) | (with_reducible refine ResAt.drew ?_)))), (belq), (by first | (simp; done) | (simp; omega))⟩) | exact hk1)
      (first | (go_at_call 48; (try dsimp only at *); go_split_ands; refine ((CC _ (by assumption)).out).mono ?_; rintro e w1 ⟨rfl, hb⟩)))) | fail "region"
     go_split_ands
     go_wp2
     try simp only [resAt_setCell] at *
     refine bodyPost_ret (v := .agg #[.int .i64 (ans).t, .int .i64 (ans).n, .string (ans).s, .bool (ans).b, .int .i64 (ans).c]) ?_ rfl ⟨by rw [hcs.out], by first | assumption | (go_split_ands; first | assumption | exact belq) | exact belq⟩
     simp [results, Tryz.results9, go_sem, *]
    |
     cROWS x0 m0 e0 =>
     obtain ⟨ab, ao, hA3, hab, _⟩ := hR0.out 0 x0.cs rfl
     obtain rfl : A = some ⟨ab, ao, none⟩ := hA3
     have habw : ab < w2.heap.size := by omega
     have habn : ab ≠ w2.heap.size := by omega
     have habz : ab ≠ w.heap.size := by omega
     have hC0 : ∀ (j : Nat) (u : Value), x0.cs[j]? = some u → w2.cell? ⟨ab, ao + 0 * 11 + j, none⟩ = some u := by
      obtain ⟨b9, o9, e9, _, hc9⟩ := (hR0.out.below qa) 0 x0.cs rfl
      cases e9
      exact hc9
     obtain ⟨y0_0, y0_1, y0_2, y0_3, y0_4, y0_5, y0_6, y0_7, y0_8, y0_9, y0_10⟩ := cs11_0 hC0
     clear hC0
     obtain ⟨hr0, hr1, hr2, hr3, hr4, hs0, hs1, hs2, hs3, hs4⟩ := res5 h2
     have hd := rect_in2 m0
     have hw9 : -900000000000000 ≤ rowsL x0 ∧ rowsL x0 ≤ 900000000000000 := by unfold rowsL; omega
     have CR := fun w3 => Lib.hid (r10rows x0 m0 w3)
     have CQ := fun w3 => Lib.hid (r10whole (rowsL x0) hw9 w3)
     generalize rowsL x0 = z at *
     clear hRw hIw hR0 hd
     go_wp2_with fail
     refine (CR _).out.mono ?_
     clear CR
     rintro e w3 ⟨rfl, hb3⟩
     have h3 : Below (w.heap.size + 1) (w.alloc (.cells #[.int .i64 0, .int .i64 0, .string ⟨#[]⟩, .bool false, .int .i64 0] 26)) w3 := (h2.alloc (by omega) _).trans (hb3.mono (by simp; omega))
     have hz3 := h3.size
     simp only [World.size_alloc] at hz3
     have g3 : Below w.heap.size w w3 := b0.trans (h3.mono (by omega))
     have l3 : w.heap.size < w3.heap.size := by omega
     clear hb3
     clear hr0 hs0 hr1 hs1 hr2 hs2 hr3 hs3 hr4 hs4 y0_0 y0_1 y0_2 y0_3 y0_4 y0_5 y0_6 y0_7 y0_8 y0_9 y0_10
     obtain ⟨hr0, hr1, hr2, hr3, hr4, hs0, hs1, hs2, hs3, hs4⟩ := res5 h3
     go_wp2_with (go_at_call 43; refine ((CQ _).out).mono ?_; rintro e w9 ⟨rfl, hb⟩; obtain ⟨hc, hf, hz⟩ := bkeep hb w3.heap.size (by first | omega | (simp <;> omega)))
     refine bodyPost_ret (v := .agg #[.int .i64 ((numL (z * 10000))).t, .int .i64 ((numL (z * 10000))).n, .string ((numL (z * 10000))).s, .bool ((numL (z * 10000))).b, .int .i64 ((numL (z * 10000))).c]) ?_ rfl ⟨by rw [hcs.out], belq⟩
     simp [results, Tryz.results9, go_sem, *]
    |
     cCOLS x0 m0 e0 =>
     obtain ⟨ab, ao, hA3, hab, _⟩ := hR0.out 0 x0.cs rfl
     obtain rfl : A = some ⟨ab, ao, none⟩ := hA3
     have habw : ab < w2.heap.size := by omega
     have habn : ab ≠ w2.heap.size := by omega
     have habz : ab ≠ w.heap.size := by omega
     have hC0 : ∀ (j : Nat) (u : Value), x0.cs[j]? = some u → w2.cell? ⟨ab, ao + 0 * 11 + j, none⟩ = some u := by
      obtain ⟨b9, o9, e9, _, hc9⟩ := (hR0.out.below qa) 0 x0.cs rfl
      cases e9
      exact hc9
     obtain ⟨y0_0, y0_1, y0_2, y0_3, y0_4, y0_5, y0_6, y0_7, y0_8, y0_9, y0_10⟩ := cs11_0 hC0
     clear hC0
     obtain ⟨hr0, hr1, hr2, hr3, hr4, hs0, hs1, hs2, hs3, hs4⟩ := res5 h2
     have hd := rect_in2 m0
     have hw9 : -900000000000000 ≤ colsL x0 ∧ colsL x0 ≤ 900000000000000 := by unfold colsL; omega
     have CR := fun w3 => Lib.hid (r10cols x0 m0 w3)
     have CQ := fun w3 => Lib.hid (r10whole (colsL x0) hw9 w3)
     generalize colsL x0 = z at *
     clear hRw hIw hR0 hd
     go_wp2_with fail
     refine (CR _).out.mono ?_
     clear CR
     rintro e w3 ⟨rfl, hb3⟩
     have h3 : Below (w.heap.size + 1) (w.alloc (.cells #[.int .i64 0, .int .i64 0, .string ⟨#[]⟩, .bool false, .int .i64 0] 26)) w3 := (h2.alloc (by omega) _).trans (hb3.mono (by simp; omega))
     have hz3 := h3.size
     simp only [World.size_alloc] at hz3
     have g3 : Below w.heap.size w w3 := b0.trans (h3.mono (by omega))
     have l3 : w.heap.size < w3.heap.size := by omega
     clear hb3
     clear hr0 hs0 hr1 hs1 hr2 hs2 hr3 hs3 hr4 hs4 y0_0 y0_1 y0_2 y0_3 y0_4 y0_5 y0_6 y0_7 y0_8 y0_9 y0_10
     obtain ⟨hr0, hr1, hr2, hr3, hr4, hs0, hs1, hs2, hs3, hs4⟩ := res5 h3
     go_wp2_with (go_at_call 43; refine ((CQ _).out).mono ?_; rintro e w9 ⟨rfl, hb⟩; obtain ⟨hc, hf, hz⟩ := bkeep hb w3.heap.size (by first | omega | (simp <;> omega)))
     refine bodyPost_ret (v := .agg #[.int .i64 ((numL (z * 10000))).t, .int .i64 ((numL (z * 10000))).n, .string ((numL (z * 10000))).s, .bool ((numL (z * 10000))).b, .int .i64 ((numL (z * 10000))).c]) ?_ rfl ⟨by rw [hcs.out], belq⟩
     simp [results, Tryz.results9, go_sem, *]
    |
     cJOIN x0 r h m0 h4 hs hN hm =>
     obtain ⟨ab, ao, hA3, hab, _⟩ := hR0.out 0 x0.cs rfl
     obtain rfl : A = some ⟨ab, ao, none⟩ := hA3
     have habw : ab < w2.heap.size := by omega
     have habn : ab ≠ w2.heap.size := by omega
     have habz : ab ≠ w.heap.size := by omega
     have hC0 : ∀ (j : Nat) (u : Value), x0.cs[j]? = some u → w2.cell? ⟨ab, ao + 0 * 11 + j, none⟩ = some u := by
      obtain ⟨b9, o9, e9, _, hc9⟩ := (hR0.out.below qa) 0 x0.cs rfl
      cases e9
      exact hc9
     obtain ⟨y0_1, y0_2, y0_3, y0_4, y0_5⟩ := cs5_0 hC0
     clear hC0
     have hRr : ∀ w3, Below w.heap.size w w3 → RdB w3 w3.heap.size (some ⟨ab, ao + 11, none⟩) 11 (r.map AL.cs) := fun w3 h i c hi => by
      obtain ⟨b2, o2, e2, hb2, hc2⟩ := hRw w3 h (i + 1) c (by simpa using hi)
      cases e2
      exact ⟨ab, ao + 11, rfl, hb2, fun j u hj => by
       have h8 := hc2 j u hj
       rw [show ao + (i + 1) * 11 + j = ao + 11 + i * 11 + j by omega] at h8
       exact h8⟩
     have hIr : ∀ w3, Below w.heap.size w w3 → ∀ x ∈ r, x.In w3 w3.heap.size := fun w3 h x hx => hIw w3 h x (by simp [hx])
     have CA := fun w3 => Lib.hid (rastextA x0.v (hIw w2 qa x0 (by simp)).1 m0 h4 w3)
     obtain ⟨s, hs9⟩ : ∃ s, x0.v.asT = s := ⟨_, rfl⟩
     simp only [hs9] at CA
     rw [hs9] at hs hcs
     obtain ⟨n0, hn0⟩ : ∃ n0, r.length = n0 := ⟨_, rfl⟩
     have CI : ∀ w3 (cap9 : Nat), Below w.heap.size w w3 → Hid (Calls Tryz.prog 42 #[.slice (some ⟨ab, ao + 11, none⟩) n0 cap9] w3 fun e w' => (∃ v, e = .returned v ∧ OwnV w' w3.heap.size v (itemsL r)) ∧ Below w3.heap.size w3 w') := fun w3 cap9 h => Lib.hid (by rw [← hn0]; exact r10items r (by omega) (by omega) w3 _ cap9 (hRr w3 h) (hIr w3 h))
     have hok := items_ok (hIr w2 qa)
     have hcp := hcap'.out
     rw [List.length_cons, hn0] at hcp
     rw [hn0] at h
     have hcp1 : (1 : Int) ≤ (n0 : Int) + 1 := by omega
     have hcp2 : (n0 : Int) + 1 ≤ (cap : Int) := by omega
     simp only [List.length_cons, hn0]
     clear hRw hIw hRr hIr hR0 hs9 hcap' hn0
     go_wp2_with fail
     refine (CA _).out.mono ?_
     clear CA
     rintro e w3 ⟨rfl, hb3⟩
     have h3 : Below (w.heap.size + 1) (w.alloc (.cells #[.int .i64 0, .int .i64 0, .string ⟨#[]⟩, .bool false, .int .i64 0] 26)) w3 := (h2.alloc (by omega) _).trans (hb3.mono (by simp; omega))
     have hz3 := h3.size
     simp only [World.size_alloc] at hz3
     have g3 : Below w.heap.size w w3 := b0.trans (h3.mono (by omega))
     have l3 : w.heap.size < w3.heap.size := by omega
     clear hb3
     go_wp2_with fail
     refine (CI w3 _ g3).out.mono ?_
     clear CI
     rintro e w4 ⟨⟨v4, rfl, hown4⟩, hb4⟩
     have h4w : Below (w.heap.size + 1) (w.alloc (.cells #[.int .i64 0, .int .i64 0, .string ⟨#[]⟩, .bool false, .int .i64 0] 26)) w4 := h3.trans (hb4.mono (by omega))
     have hz4 := hb4.size
     have g4 : Below w.heap.size w w4 := b0.trans (h4w.mono (by omega))
     have l4 : w.heap.size < w4.heap.size := by omega
     have n4 : w.heap.size ≠ w4.heap.size := by omega
     obtain ⟨A4, cap4, rfl, hrd4⟩ := own_rdv hown4
     have CF := Lib.hid (r10faulty (itemsL r) (by omega) w4 A4 cap4 hrd4)
     generalize hL : itemsL r = L at *
     clear hown4 hb4 h3 g3 y0_1 y0_2 y0_3 y0_4 y0_5
     cases hfl : fltL L with
     |
      some f =>
      have hVe := Lib.hid (show V = f from by rw [hcs.out]; unfold faultR; rw [show L.find? (fun v => decide (v.t = 4)) = some f from hfl])
      rw [fltV_some hfl, hfl] at CF
      simp only [Option.isSome_some] at CF
      obtain ⟨hr0, hr1, hr2, hr3, hr4, hs0, hs1, hs2, hs3, hs4⟩ := res5 h4w
      go_wp2_with (refine CF.out.mono ?_; rintro e w9 ⟨rfl, hb⟩; obtain ⟨hc, hf, hz⟩ := bkeep hb w4.heap.size (by first | omega | (simp <;> omega)); have hz9 : w.heap.size ≠ w9.heap.size := (by omega); have hz8 : w.heap.size < w9.heap.size := by omega)
      refine bodyPost_ret (v := .agg #[.int .i64 (f).t, .int .i64 (f).n, .string (f).s, .bool (f).b, .int .i64 (f).c]) ?_ rfl ⟨by rw [hVe.out], belq⟩
      simp [results, Tryz.results9, go_sem, *]
     |
      none =>
      have hVe := Lib.hid (show V = joinV text (jnB s (txB L)) from by rw [hcs.out]; unfold faultR; rw [show L.find? (fun v => decide (v.t = 4)) = none from hfl])
      have hno : ∀ y ∈ L, ¬ y.t = 4 := fun y hy h8 => by
       unfold fltL at hfl
       rw [List.find?_eq_none] at hfl
       exact hfl y hy (by simpa using h8)
      have CJ : ∀ w5, Below w4.heap.size w4 w5 → Hid (Calls Tryz.prog 52 #[.string s, .slice A4 L.length cap4, .int .i64 text] w5 fun e w' => e = .returned (.agg #[.int .i64 ((joinV text (jnB s (txB L)))).t, .int .i64 ((joinV text (jnB s (txB L)))).n, .string ((joinV text (jnB s (txB L)))).s, .bool ((joinV text (jnB s (txB L)))).b, .int .i64 ((joinV text (jnB s (txB L)))).c]) ∧ Below w5.heap.size w5 w') := fun w5 h8 => Lib.hid (r10join s hs L (fun y hy => ⟨hok y hy, (hm y hy).1, hno y hy, asT_size8 (hok y hy) (hm y hy).2⟩) (by omega) text h9 w5 A4 cap4 ((hrd4.below h8).mono h8.size))
      rw [hfl] at CF
      simp only [Option.isSome_none] at CF
      clear hfl hcs
      go_wp2_with fail
      refine CF.out.mono ?_
      clear CF
      rintro e w5 ⟨rfl, hb5⟩
      have h5 : Below (w.heap.size + 1) (w.alloc (.cells #[.int .i64 0, .int .i64 0, .string ⟨#[]⟩, .bool false, .int .i64 0] 26)) w5 := h4w.trans (hb5.mono (by omega))
      have hz5 := hb5.size
      have g5 : Below w.heap.size w w5 := b0.trans (h5.mono (by omega))
      have l5 : w.heap.size < w5.heap.size := by omega
      have n5 : w.heap.size ≠ w5.heap.size := by omega
      obtain ⟨hr0, hr1, hr2, hr3, hr4, hs0, hs1, hs2, hs3, hs4⟩ := res5 h5
      go_wp2_with (refine (CJ _ ?_).out.mono ?_; (first | exact hb5.alloc hz5 _); rintro e w9 ⟨rfl, hb⟩; obtain ⟨hc, hf, hz⟩ := bkeep hb w5.heap.size (by first | omega | (simp <;> omega)))
      refine bodyPost_ret (v := .agg #[.int .i64 ((joinV text (jnB s (txB L)))).t, .int .i64 ((joinV text (jnB s (txB L)))).n, .string ((joinV text (jnB s (txB L)))).s, .bool ((joinV text (jnB s (txB L)))).b, .int .i64 ((joinV text (jnB s (txB L)))).c]) ?_ rfl ⟨by rw [hVe.out], belq⟩
      simp [results, Tryz.results9, go_sem, *]
end Go.Proofs.YtgmhifafbebjfaaGreatDoor
