/-
  the document's texts: one; AsText.
-/
import Derived.Test.YtgmhifafbebjfaaGreatDoorR9C
import Derived.Test.YtgmhifafbebjfaaGreatDoorMg31
import Derived.Test.YtgmhifafbebjfaaGreatDoorTFrn
import Derived.Test.YtgmhifafbebjfaaGreatDoorRDJoin
namespace Go.Proofs.YtgmhifafbebjfaaGreatDoor
open Go.RowKit

theorem rastext_any (v : VL) (hv : v.ok) (hm : v.may = true) (h4 : ¬ v.t = 4) (w : World) : Calls Tryz.prog 23 #[.agg #[.int .i64 v.t, .int .i64 v.n, .string v.s, .bool v.b, .int .i64 v.c]] w fun e w' => e = .returned (.tuple #[.string v.asT, .int .i64 0]) ∧ Below w.heap.size w w' := by
  obtain ⟨t, n, s, b, c⟩ := v
  have hn : -9223372036854775808 ≤ n ∧ n ≤ 9223372036854775807 := hv
  have m : vMay t n s b c = true := hm
  unfold VL.asT
  obtain ⟨h1, h2, h3, h4', h5, h6, h7, h8⟩ := (vMay_iff t n s b c).1 m
  simp only at h4 ⊢
  have hh : t = 0 ∨ t = 1 ∨ t = 2 ∨ t = 3 := by omega
  rcases hh with rfl | rfl | rfl | rfl
  · obtain rfl : n = 0 := by omega
    obtain rfl : s = ⟨#[]⟩ := by rcases h4' with h | h; omega; exact h
    obtain rfl : b = false := by rcases h5 with h | h; omega; exact h
    obtain rfl : c = 0 := by omega
    exact rastxt_0 w
  · obtain rfl : s = ⟨#[]⟩ := by rcases h4' with h | h; omega; exact h
    obtain rfl : b = false := by rcases h5 with h | h; omega; exact h
    obtain rfl : c = 0 := by omega
    exact rastxt_1 n hn (h7 rfl) w
  · obtain rfl : n = 0 := by omega
    obtain rfl : b = false := by rcases h5 with h | h; omega; exact h
    obtain rfl : c = 0 := by omega
    exact rastxt_2 s w
  · obtain rfl : n = 0 := by omega
    obtain rfl : s = ⟨#[]⟩ := by rcases h4' with h | h; omega; exact h
    obtain rfl : c = 0 := by omega
    cases b
    · exact rastxt_f w
    · exact rastxt_t w
set_option maxHeartbeats 1000000 in
theorem r9one_LEN (s : ByteArray) (hs : s.size ≤ 1048576) (text : Int) (w : World) : Calls Tryz.prog 31 #[.string ⟨#[76, 69, 78]⟩, .string s, .int .i64 text] w fun e w' => e = .returned (.agg #[.int .i64 (numL ((s.size : Int) * 10000)).t, .int .i64 (numL ((s.size : Int) * 10000)).n, .string (numL ((s.size : Int) * 10000)).s, .bool (numL ((s.size : Int) * 10000)).b, .int .i64 (numL ((s.size : Int) * 10000)).c]) ∧ Below w.heap.size w w' := by
  go_enter Tryz.func31, Tryz.ntmps31
  go_wp2_with (go_at_call 94; refine (r9whole (s.size : Int) (by omega) _).mono ?_; rintro e w1 ⟨rfl, hb⟩; obtain ⟨hc, hf, hz⟩ := bkeep hb (w.heap.size + 1) (by first | omega | (simp <;> omega)))
  refine bodyPost_ret (v := .agg #[.int .i64 (numL ((s.size : Int) * 10000)).t, .int .i64 (numL ((s.size : Int) * 10000)).n, .string (numL ((s.size : Int) * 10000)).s, .bool (numL ((s.size : Int) * 10000)).b, .int .i64 (numL ((s.size : Int) * 10000)).c]) ?_ rfl ⟨by rfl, by (repeat (first | (with_reducible exact Below.refl _ _) | (with_reducible refine Below.alloc ?_ (by first | omega | (dsimp only; omega) | (simp <;> omega)) _) | (with_reducible refine Below.setCell ?_ (by first | omega | (dsimp only; omega) | (simp <;> omega)) _) | (with_reducible refine Below.drew ?_) | (with_reducible refine below_drewN ?_ _) | (with_reducible refine Below.trans ?_ (Below.mono (by assumption) (by first | omega | (dsimp only; omega) | (simp <;> omega))))))⟩
  simp [results, Tryz.results31, go_sem, *]
set_option maxRecDepth 100000 in
set_option maxHeartbeats 1000000 in
theorem r9one_UPPER (s : ByteArray) (hs : s.size ≤ 1048576) (text : Int) (w : World) : Calls Tryz.prog 31 #[.string ⟨#[85, 80, 80, 69, 82]⟩, .string s, .int .i64 text] w fun e w' => e = .returned (.agg #[.int .i64 (toldT text (caseS 97 65 s)).t, .int .i64 (toldT text (caseS 97 65 s)).n, .string (toldT text (caseS 97 65 s)).s, .bool (toldT text (caseS 97 65 s)).b, .int .i64 (toldT text (caseS 97 65 s)).c]) ∧ Below w.heap.size w w' := by
  obtain ⟨d, hd⟩ : ∃ d, caseS 97 65 s = d := ⟨_, rfl⟩
  have hdz : d.size ≤ 1048576 := by rw [← hd]; rw [caseS_size]; exact hs
  have CC := fun w0 : World => r9upper s hs w0
  rw [hd] at CC ⊢
  clear hd
  go_enter Tryz.func31, Tryz.ntmps31
  go_wp2_with fail
  go_at_call 95
  refine (CC _).mono ?_
  rintro e w1 ⟨rfl, hb1⟩
  obtain ⟨hc1, hf1, hz1⟩ := bkeep hb1 (w.heap.size + 1) (by simp)
  clear CC
  go_wp2_with (go_at_call 25; refine (r9told text d (by omega) _).mono ?_; rintro e w1 ⟨rfl, hb⟩; obtain ⟨hc, hf, hz⟩ := bkeep hb (w.heap.size + 1) (by first | omega | (simp <;> omega)))
  refine bodyPost_ret (v := .agg #[.int .i64 (toldT text d).t, .int .i64 (toldT text d).n, .string (toldT text d).s, .bool (toldT text d).b, .int .i64 (toldT text d).c]) ?_ rfl ⟨by rfl, by (repeat (first | (with_reducible exact Below.refl _ _) | (with_reducible refine Below.alloc ?_ (by first | omega | (dsimp only; omega) | (simp <;> omega)) _) | (with_reducible refine Below.setCell ?_ (by first | omega | (dsimp only; omega) | (simp <;> omega)) _) | (with_reducible refine Below.drew ?_) | (with_reducible refine below_drewN ?_ _) | (with_reducible refine Below.trans ?_ (Below.mono (by assumption) (by first | omega | (dsimp only; omega) | (simp <;> omega))))))⟩
  simp [results, Tryz.results31, go_sem, *]
set_option maxRecDepth 100000 in
set_option maxHeartbeats 1000000 in
theorem r9one_LOWER (s : ByteArray) (hs : s.size ≤ 1048576) (text : Int) (w : World) : Calls Tryz.prog 31 #[.string ⟨#[76, 79, 87, 69, 82]⟩, .string s, .int .i64 text] w fun e w' => e = .returned (.agg #[.int .i64 (toldT text (caseS 65 97 s)).t, .int .i64 (toldT text (caseS 65 97 s)).n, .string (toldT text (caseS 65 97 s)).s, .bool (toldT text (caseS 65 97 s)).b, .int .i64 (toldT text (caseS 65 97 s)).c]) ∧ Below w.heap.size w w' := by
  obtain ⟨d, hd⟩ : ∃ d, caseS 65 97 s = d := ⟨_, rfl⟩
  have hdz : d.size ≤ 1048576 := by rw [← hd]; rw [caseS_size]; exact hs
  have CC := fun w0 : World => r9lower s hs w0
  rw [hd] at CC ⊢
  clear hd
  go_enter Tryz.func31, Tryz.ntmps31
  go_wp2_with fail
  go_at_call 95
  refine (CC _).mono ?_
  rintro e w1 ⟨rfl, hb1⟩
  obtain ⟨hc1, hf1, hz1⟩ := bkeep hb1 (w.heap.size + 1) (by simp)
  clear CC
  go_wp2_with (go_at_call 25; refine (r9told text d (by omega) _).mono ?_; rintro e w1 ⟨rfl, hb⟩; obtain ⟨hc, hf, hz⟩ := bkeep hb (w.heap.size + 1) (by first | omega | (simp <;> omega)))
  refine bodyPost_ret (v := .agg #[.int .i64 (toldT text d).t, .int .i64 (toldT text d).n, .string (toldT text d).s, .bool (toldT text d).b, .int .i64 (toldT text d).c]) ?_ rfl ⟨by rfl, by (repeat (first | (with_reducible exact Below.refl _ _) | (with_reducible refine Below.alloc ?_ (by first | omega | (dsimp only; omega) | (simp <;> omega)) _) | (with_reducible refine Below.setCell ?_ (by first | omega | (dsimp only; omega) | (simp <;> omega)) _) | (with_reducible refine Below.drew ?_) | (with_reducible refine below_drewN ?_ _) | (with_reducible refine Below.trans ?_ (Below.mono (by assumption) (by first | omega | (dsimp only; omega) | (simp <;> omega))))))⟩
  simp [results, Tryz.results31, go_sem, *]
set_option maxRecDepth 100000 in
set_option maxHeartbeats 1000000 in
theorem r9one_TRIM (s : ByteArray) (hs : s.size ≤ 1048576) (text : Int) (w : World) : Calls Tryz.prog 31 #[.string ⟨#[84, 82, 73, 77]⟩, .string s, .int .i64 text] w fun e w' => e = .returned (.agg #[.int .i64 (toldT text (trimS s)).t, .int .i64 (toldT text (trimS s)).n, .string (toldT text (trimS s)).s, .bool (toldT text (trimS s)).b, .int .i64 (toldT text (trimS s)).c]) ∧ Below w.heap.size w w' := by
  obtain ⟨d, hd⟩ : ∃ d, trimS s = d := ⟨_, rfl⟩
  have hdz : d.size ≤ 1048576 := by rw [← hd]; have := trimS_size s; omega
  have CC := fun w0 : World => (show Calls Tryz.prog 96 #[.string s] w0 (fun e w' => e = .returned (.string (trimS s)) ∧ Below w0.heap.size w0 w') from r9trim s hs w0)
  rw [hd] at CC ⊢
  clear hd
  go_enter Tryz.func31, Tryz.ntmps31
  go_wp2_with fail
  go_at_call 96
  refine (CC _).mono ?_
  rintro e w1 ⟨rfl, hb1⟩
  obtain ⟨hc1, hf1, hz1⟩ := bkeep hb1 (w.heap.size + 1) (by simp)
  clear CC
  go_wp2_with (go_at_call 25; refine (r9told text d (by omega) _).mono ?_; rintro e w1 ⟨rfl, hb⟩; obtain ⟨hc, hf, hz⟩ := bkeep hb (w.heap.size + 1) (by first | omega | (simp <;> omega)))
  refine bodyPost_ret (v := .agg #[.int .i64 (toldT text d).t, .int .i64 (toldT text d).n, .string (toldT text d).s, .bool (toldT text d).b, .int .i64 (toldT text d).c]) ?_ rfl ⟨by rfl, by (repeat (first | (with_reducible exact Below.refl _ _) | (with_reducible refine Below.alloc ?_ (by first | omega | (dsimp only; omega) | (simp <;> omega)) _) | (with_reducible refine Below.setCell ?_ (by first | omega | (dsimp only; omega) | (simp <;> omega)) _) | (with_reducible refine Below.drew ?_) | (with_reducible refine below_drewN ?_ _) | (with_reducible refine Below.trans ?_ (Below.mono (by assumption) (by first | omega | (dsimp only; omega) | (simp <;> omega))))))⟩
  simp [results, Tryz.results31, go_sem, *]
set_option maxRecDepth 100000 in
set_option maxHeartbeats 1000000 in
theorem r9one_REV (s : ByteArray) (hs : s.size ≤ 1048576) (text : Int) (w : World) : Calls Tryz.prog 31 #[.string ⟨#[82, 69, 86]⟩, .string s, .int .i64 text] w fun e w' => e = .returned (.agg #[.int .i64 (toldT text (revS s)).t, .int .i64 (toldT text (revS s)).n, .string (toldT text (revS s)).s, .bool (toldT text (revS s)).b, .int .i64 (toldT text (revS s)).c]) ∧ Below w.heap.size w w' := by
  obtain ⟨d, hd⟩ : ∃ d, revS s = d := ⟨_, rfl⟩
  have hdz : d.size ≤ 1048576 := by rw [← hd]; rw [revS_size]; exact hs
  have CC := fun w0 : World => (r9turned s (by omega) w0).mono (fun e w' h => (⟨h.1, by rw [← h.2]; exact Below.refl _ _⟩ : e = .returned (.string (revS s)) ∧ Below w0.heap.size w0 w'))
  rw [hd] at CC ⊢
  clear hd
  go_enter Tryz.func31, Tryz.ntmps31
  go_wp2_with fail
  go_at_call 97
  refine (CC _).mono ?_
  rintro e w1 ⟨rfl, hb1⟩
  obtain ⟨hc1, hf1, hz1⟩ := bkeep hb1 (w.heap.size + 1) (by simp)
  clear CC
  go_wp2_with (go_at_call 25; refine (r9told text d (by omega) _).mono ?_; rintro e w1 ⟨rfl, hb⟩; obtain ⟨hc, hf, hz⟩ := bkeep hb (w.heap.size + 1) (by first | omega | (simp <;> omega)))
  refine bodyPost_ret (v := .agg #[.int .i64 (toldT text d).t, .int .i64 (toldT text d).n, .string (toldT text d).s, .bool (toldT text d).b, .int .i64 (toldT text d).c]) ?_ rfl ⟨by rfl, by (repeat (first | (with_reducible exact Below.refl _ _) | (with_reducible refine Below.alloc ?_ (by first | omega | (dsimp only; omega) | (simp <;> omega)) _) | (with_reducible refine Below.setCell ?_ (by first | omega | (dsimp only; omega) | (simp <;> omega)) _) | (with_reducible refine Below.drew ?_) | (with_reducible refine below_drewN ?_ _) | (with_reducible refine Below.trans ?_ (Below.mono (by assumption) (by first | omega | (dsimp only; omega) | (simp <;> omega))))))⟩
  simp [results, Tryz.results31, go_sem, *]
set_option maxRecDepth 100000 in
set_option maxHeartbeats 1000000 in
theorem r9one_ORD (s : ByteArray) (text : Int) (w : World) : Calls Tryz.prog 31 #[.string ⟨#[79, 82, 68]⟩, .string s, .int .i64 text] w fun e w' => e = .returned (.agg #[.int .i64 (ordT s).t, .int .i64 (ordT s).n, .string (ordT s).s, .bool (ordT s).b, .int .i64 (ordT s).c]) ∧ Below w.heap.size w w' := by
  unfold ordT
  by_cases h0 : s.size = 0
  · rw [if_pos h0]
    obtain rfl : s = ⟨#[]⟩ := by
      apply ByteArray.ext; apply Array.ext'
      exact List.eq_nil_of_length_eq_zero h0
    go_enter Tryz.func31, Tryz.ntmps31
    go_wp2_with (go_at_call 20; refine (rverr9 8 _).mono ?_; rintro e w1 ⟨rfl, hb⟩; obtain ⟨hc, hf, hz⟩ := bkeep hb (w.heap.size + 1) (by first | omega | (simp <;> omega)))
    refine bodyPost_ret (v := .agg #[.int .i64 4, .int .i64 0, .string ⟨#[]⟩, .bool false, .int .i64 (errC 8)]) ?_ rfl ⟨by rfl, by (repeat (first | (with_reducible exact Below.refl _ _) | (with_reducible refine Below.alloc ?_ (by first | omega | (dsimp only; omega) | (simp <;> omega)) _) | (with_reducible refine Below.setCell ?_ (by first | omega | (dsimp only; omega) | (simp <;> omega)) _) | (with_reducible refine Below.drew ?_) | (with_reducible refine below_drewN ?_ _) | (with_reducible refine Below.trans ?_ (Below.mono (by assumption) (by first | omega | (dsimp only; omega) | (simp <;> omega))))))⟩
    simp [results, Tryz.results31, go_sem, *]
  · rw [if_neg h0]
    have hs : 0 < s.size := by omega
    have hne : decide (s = ⟨#[]⟩) = false := decide_eq_false fun h => by subst h; exact h0 rfl
    have hz0 : (0 : Int) < (s.size : Int) := by omega
    have hc : s[0]'hs = s.data.toList.headD 0 := by
      rcases s with ⟨⟨l⟩⟩
      cases l
      · exact absurd hs (by decide)
      · rfl
    have hh : s.data.toList.head?.getD 0 = headU s := by unfold headU; rw [List.headD_eq_head?_getD]
    go_enter Tryz.func31, Tryz.ntmps31
    go_wp2_with fail
    have hx : ∀ c : UInt8, wrap64 (c.toNat : Int) = (c.toNat : Int) := fun c => by
      rw [← IntWalk.i64_left]
      exact IntWalk.i64_in _ (by have := c.toNat_lt; omega)
    rw [hx]
    refine (r9whole ((headU s).toNat : Int) (by have := (headU s).toNat_lt; omega) _).mono ?_
    rintro e w1 ⟨rfl, hb⟩
    obtain ⟨hc1, hf, hz⟩ := bkeep hb (w.heap.size + 1) (by simp)
    go_wp2
    refine bodyPost_ret (v := .agg #[.int .i64 (numL (((headU s).toNat : Int) * 10000)).t, .int .i64 (numL (((headU s).toNat : Int) * 10000)).n, .string (numL (((headU s).toNat : Int) * 10000)).s, .bool (numL (((headU s).toNat : Int) * 10000)).b, .int .i64 (numL (((headU s).toNat : Int) * 10000)).c]) ?_ rfl ⟨by rfl, by (repeat (first | (with_reducible exact Below.refl _ _) | (with_reducible refine Below.alloc ?_ (by first | omega | (dsimp only; omega) | (simp <;> omega)) _) | (with_reducible refine Below.setCell ?_ (by first | omega | (dsimp only; omega) | (simp <;> omega)) _) | (with_reducible refine Below.drew ?_) | (with_reducible refine below_drewN ?_ _) | (with_reducible refine Below.trans ?_ (Below.mono (by assumption) (by first | omega | (dsimp only; omega) | (simp <;> omega))))))⟩
    simp [results, Tryz.results31, go_sem, *]
set_option maxRecDepth 100000 in
set_option maxHeartbeats 1000000 in
theorem r9one_NUM (s : ByteArray) (hs : s.size ≤ 1048576) (text : Int) (w : World) : Calls Tryz.prog 31 #[.string ⟨#[78, 85, 77]⟩, .string s, .int .i64 text] w fun e w' => e = .returned (.agg #[.int .i64 (numTx s).t, .int .i64 (numTx s).n, .string (numTx s).s, .bool (numTx s).b, .int .i64 (numTx s).c]) ∧ Below w.heap.size w w' := by
  have hr := numV_range9 (l := s.data.toList)
  have CP := fun w0 : World => rdparse_any s (by unfold maxLen; omega) w0
  unfold numTx
  generalize numV s.data.toList = x at *
  cases hk : numOk s.data.toList with
  | false =>
    rw [hk] at CP
    rw [if_neg (by simp)]
    clear hk
    go_enter Tryz.func31, Tryz.ntmps31
    go_wp2_with fail
    go_at_call 98
    refine (CP _).mono ?_
    rintro e w1 ⟨rfl, rfl⟩
    clear CP
    go_wp2_with (go_at_call 20; refine (rverr9 4 _).mono ?_; rintro e w1 ⟨rfl, hb⟩; obtain ⟨hc, hf, hz⟩ := bkeep hb (w.heap.size + 1) (by first | omega | (simp <;> omega)))
    refine bodyPost_ret (v := .agg #[.int .i64 4, .int .i64 0, .string ⟨#[]⟩, .bool false, .int .i64 (errC 4)]) ?_ rfl ⟨by rfl, by (repeat (first | (with_reducible exact Below.refl _ _) | (with_reducible refine Below.alloc ?_ (by first | omega | (dsimp only; omega) | (simp <;> omega)) _) | (with_reducible refine Below.setCell ?_ (by first | omega | (dsimp only; omega) | (simp <;> omega)) _) | (with_reducible refine Below.drew ?_) | (with_reducible refine below_drewN ?_ _) | (with_reducible refine Below.trans ?_ (Below.mono (by assumption) (by first | omega | (dsimp only; omega) | (simp <;> omega))))))⟩
    simp [results, Tryz.results31, go_sem, *]
  | true =>
    rw [hk] at CP
    rw [if_pos rfl]
    clear hk
    go_enter Tryz.func31, Tryz.ntmps31
    go_wp2_with fail
    go_at_call 98
    refine (CP _).mono ?_
    rintro e w1 ⟨rfl, rfl⟩
    clear CP
    go_wp2_with (go_at_call 99; refine (rvnum9 x hr _).mono ?_; rintro e w1 ⟨rfl, hb⟩; obtain ⟨hc, hf, hz⟩ := bkeep hb (w.heap.size + 1) (by first | omega | (simp <;> omega)))
    refine bodyPost_ret (v := .agg #[.int .i64 (numT x), .int .i64 (numN x), .string ⟨#[]⟩, .bool false, .int .i64 (numF x)]) ?_ rfl ⟨rfl, by (repeat (first | (with_reducible exact Below.refl _ _) | (with_reducible refine Below.alloc ?_ (by first | omega | (dsimp only; omega) | (simp <;> omega)) _) | (with_reducible refine Below.setCell ?_ (by first | omega | (dsimp only; omega) | (simp <;> omega)) _) | (with_reducible refine Below.drew ?_) | (with_reducible refine below_drewN ?_ _) | (with_reducible refine Below.trans ?_ (Below.mono (by assumption) (by first | omega | (dsimp only; omega) | (simp <;> omega))))))⟩
    simp [results, Tryz.results31, go_sem, *]
end Go.Proofs.YtgmhifafbebjfaaGreatDoor
