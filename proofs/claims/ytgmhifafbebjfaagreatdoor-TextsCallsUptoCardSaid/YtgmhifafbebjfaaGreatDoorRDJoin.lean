/-
  The document's Parse of any text.
-/
import Derived.Test.YtgmhifafbebjfaaGreatDoorRDPar
import Derived.Test.YtgmhifafbebjfaaGreatDoorRDParB
import Derived.Test.YtgmhifafbebjfaaGreatDoorDParse
namespace Go.Proofs.YtgmhifafbebjfaaGreatDoor
open Go.RowKit

theorem low_byte {l : List UInt8} (h : lowOf l = true) : ∃ hs : 0 < (⟨l.toArray⟩ : ByteArray).size, ((⟨l.toArray⟩ : ByteArray)[0]'hs).toNat = 45 := by
  cases l with
  | nil => simp [lowOf] at h
  | cons b t =>
    have hb : b = 45 := by simpa [lowOf] using h
    subst hb
    exact ⟨by show 0 < (45 :: t).toArray.size; simp, rfl⟩
theorem low_not {l : List UInt8} (h : lowOf l = false) (hs : 0 < (⟨l.toArray⟩ : ByteArray).size) : ¬ ((⟨l.toArray⟩ : ByteArray)[0]'hs).toNat = 45 := by
  cases l with
  | nil => exact absurd hs (by decide)
  | cons b t =>
    intro e
    have e2 : b.toNat = 45 := e
    obtain rfl : b = 45 := UInt8.toNat_inj.1 e2
    simp [lowOf] at h
theorem tail_yes {l : List UInt8} (h : lowOf l = true) : tailOf l = l.drop 1 := by unfold tailOf; rw [h]; simp
theorem tail_not {l : List UInt8} (h : lowOf l = false) : tailOf l = l.drop 0 := by unfold tailOf; rw [h]; simp
theorem body_none {low : Bool} {t : List UInt8} (h : wholeOk (t.takeWhile isDig) = false) : bodyOf low t = .none := by unfold bodyOf; rw [h]; rfl
theorem body_rest {low : Bool} {t : List UInt8} (h : wholeOk (t.takeWhile isDig) = true) : bodyOf low t = match restOf (t.dropWhile isDig) with | some r => numOf low (t.takeWhile isDig) r | .none => .none := by unfold bodyOf; rw [h]; rfl
theorem num_no0 {D r : List UInt8} {u : Nat} (hu : valL (D ++ (r ++ List.replicate (4 - r.length) 48)) = u) (h : 9223372036854775807 < u) (low : Bool) : numOf low D r = .none := by
  unfold numOf; rw [hu]; split
  · rfl
  · rw [if_neg (by omega)]
theorem num_yes0 {D r : List UInt8} {u : Nat} (hu : valL (D ++ (r ++ List.replicate (4 - r.length) 48)) = u) (h : u ≤ 9223372036854775807) : numOf false D r = some (u : Int) := by
  unfold numOf; rw [hu, if_neg (by simp), if_pos h]; rfl
theorem num_yes1 {D r : List UInt8} {u : Nat} (hu : valL (D ++ (r ++ List.replicate (4 - r.length) 48)) = u) (h : u ≤ 9223372036854775807) (h0 : 0 < u) : numOf true D r = some (-(u : Int)) := by
  unfold numOf; rw [hu, if_neg (by omega), if_pos h]; rfl
theorem num_no2 {D r : List UInt8} (hu : valL (D ++ (r ++ List.replicate (4 - r.length) 48)) = 0) : numOf true D r = .none := by
  unfold numOf; rw [hu, if_pos (by simp)]
set_option maxHeartbeats 1000000 in
theorem rdjoin0 (l : List UInt8) (hl : l.length ≤ 9223372036854775807) (hlow : lowOf l = false) (w : World) : Calls Tryz.prog 98 #[.string ⟨l.toArray⟩] w fun e w' => e = .returned (.tuple #[.int .i64 (numV l), .bool (numOk l)]) ∧ w = w' := by
  have hsn := low_not hlow
  have htl := tail_not hlow
  obtain ⟨t, ht⟩ : ∃ t, t = l.drop 0 := ⟨_, rfl⟩
  have hP : numP l = bodyOf false t := by unfold numP; rw [hlow, htl, ht]
  clear htl hlow
  obtain ⟨k, hk⟩ : ∃ k, (t.takeWhile isDig).length = k := ⟨_, rfl⟩
  have hK := Lib.hid (show ((l.drop 0).takeWhile isDig).length = k by rw [← ht]; exact hk)
  have tl : t.length = l.length - 0 := by rw [ht]; simp
  have hkt : k ≤ t.length := by rw [← hk]; exact rtw_len t
  have hw15 := whole_dig2 t k hk
  have hDt := rtw_take t
  have hDd := rtw_drop t
  have hDa := rtw_all t
  rw [hk] at hDt hDd
  obtain ⟨D, hD⟩ : ∃ D, t.takeWhile isDig = D := ⟨_, rfl⟩
  by_cases c0 : k < 1
  · have hN : numP l = .none := by rw [hP]; exact body_none (whole_dig (by rw [hw15]; simp; omega))
    rw [(numV_eq hN).1, (numV_eq hN).2]
    exact rp0_k0 l k hl (by by_cases h0 : l.length = 0; exact Or.inl h0; exact Or.inr ⟨by show 0 < l.toArray.size; simp; omega, hsn _⟩) hK c0 w
  have hs0 : 0 < (⟨l.toArray⟩ : ByteArray).size := by show 0 < l.toArray.size; simp; omega
  have hs1 := hsn hs0
  by_cases c1 : 15 < k
  · have hN : numP l = .none := by rw [hP]; exact body_none (whole_dig (by rw [hw15]; simp; omega))
    rw [(numV_eq hN).1, (numV_eq hN).2]
    exact rp0_k16 l k hl hs0 hs1 hK c1 w
  have ht0 : 0 < (⟨l.toArray⟩ : ByteArray).size := by show 0 < l.toArray.size; simp; omega
  rw [hD] at hk hDt hDa hw15
  have hw15 : digOk D 15 = true := by rw [hw15]; simp; omega
  have hget : ∀ j (h : j < D.length) (h2 : j < l.length), D[j] = l[j] := by
    intro j h h2
    have e1 : D[j] = t[j]'(by omega) := by
      have : D = t.take k := hDt.symm
      rw [List.getElem_of_eq this h, List.getElem_take]
    rw [e1, List.getElem_of_eq ht (by omega)]
    simp
  have hb1 : 0 < (⟨D.toArray⟩ : ByteArray).size := by show 0 < D.toArray.size; simp; omega
  have hh : ((⟨D.toArray⟩ : ByteArray)[0]'hb1).toNat = ((⟨l.toArray⟩ : ByteArray)[0]'ht0).toNat := by
    have := hget 0 (by omega) (by omega)
    exact congrArg UInt8.toNat this
  by_cases cl : 1 < k ∧ ((⟨l.toArray⟩ : ByteArray)[0]'ht0).toNat = 48
  · have hN : numP l = .none := by rw [hP]; exact body_none (by rw [hD]; exact whole_lead (by omega) hb1 (by rw [hh]; exact cl.2))
    rw [(numV_eq hN).1, (numV_eq hN).2]
    exact rp0_lead l k hl hs0 hs1 hK cl.1 (by omega) ht0 cl.2 w
  have hwk : wholeOk D = true := by
    by_cases c2 : 1 < k
    · exact whole_more hw15 (by omega) hb1 (by rw [hh]; exact fun e => cl ⟨c2, e⟩)
    · exact whole_one hw15 (by omega)
  have ht1 : ((⟨l.toArray⟩ : ByteArray)[0]'ht0).toNat = 48 ∧ k < 2 ∨ ¬ ((⟨l.toArray⟩ : ByteArray)[0]'ht0).toNat = 48 := by
    by_cases c3 : ((⟨l.toArray⟩ : ByteArray)[0]'ht0).toNat = 48
    · left; exact ⟨c3, by have : ¬ 1 < k := fun c2 => cl ⟨c2, c3⟩; omega⟩
    · right; exact c3
  have hQ0 := hP
  rw [body_rest (by rw [hD]; exact hwk), hD, ← hDd] at hQ0
  obtain ⟨V, hV⟩ : ∃ V : Nat → Nat, V = fun j => valL (D.take j) := ⟨_, rfl⟩
  have hV0 := Lib.hid (show V 0 = 0 by rw [hV]; rfl)
  have hVs := Lib.hid (show ∀ j (_ : j < k) (h : j < (⟨l.toArray⟩ : ByteArray).size), 48 ≤ ((⟨l.toArray⟩ : ByteArray)[j]'h).toNat ∧ ((⟨l.toArray⟩ : ByteArray)[j]'h).toNat ≤ 57 ∧ V j ≤ 1000000000000000 ∧ V (j + 1) = V j * 10 + (((⟨l.toArray⟩ : ByteArray)[j]'h).toNat - 48) by
    intro j hj h
    have h2 : j < l.length := by have : j < l.toArray.size := h; simpa using this
    have e := loopV D hDa (by omega) j (by omega)
    rw [hget j (by omega) h2] at e
    rw [hV]
    exact e)
  by_cases ce : k < l.length
  · have hp0 : k < (⟨l.toArray⟩ : ByteArray).size := by show k < l.toArray.size; simpa using ce
    obtain ⟨R, hR⟩ : ∃ R, R = l.drop (k + 1) := ⟨_, rfl⟩
    have hRl : R.length = l.length - (k + 1) := by rw [hR]; simp
    have hdr : t.drop k = l[k] :: R := by
      rw [ht, hR, List.drop_drop, List.drop_eq_getElem_cons (by omega)]
      simp
    rw [hdr] at hQ0
    obtain ⟨r, hr⟩ : ∃ r, (R.takeWhile isDig).length = r := ⟨_, rfl⟩
    have hr' := Lib.hid (show ((l.drop (k + 1)).takeWhile isDig).length = r by rw [← hR]; exact hr)
    have hrR : r ≤ R.length := by rw [← hr]; exact rtw_len R
    have hdk := rest_dig R r hr
    by_cases cd : ((⟨l.toArray⟩ : ByteArray)[k]'hp0).toNat = 46
    · have cd2 : l[k] = 46 := UInt8.toNat_inj.1 cd
      rw [cd2] at hQ0
      by_cases c5 : r < 1
      · have hno : digOk R 4 = false := by rw [hdk]; simp; omega
        have hN : numP l = .none := by rw [hQ0]; simp [restOf, hno]
        rw [(numV_eq hN).1, (numV_eq hN).2]
        exact rp0_r0 l k hl hs0 hs1 hK (by omega) (by omega) (by omega) ht0 ht1 V hV0 hVs ce hp0 r hr' cd c5 w
      by_cases c6 : 4 < r
      · have hno : digOk R 4 = false := by rw [hdk]; simp; omega
        have hN : numP l = .none := by rw [hQ0]; simp [restOf, hno]
        rw [(numV_eq hN).1, (numV_eq hN).2]
        exact rp0_r5 l k hl hs0 hs1 hK (by omega) (by omega) (by omega) ht0 ht1 V hV0 hVs ce hp0 r hr' cd c6 w
      by_cases c7 : k + 1 + r < l.length
      · have hno : digOk R 4 = false := by rw [hdk]; simp; omega
        have hN : numP l = .none := by rw [hQ0]; simp [restOf, hno]
        rw [(numV_eq hN).1, (numV_eq hN).2]
        exact rp0_rem l k hl hs0 hs1 hK (by omega) (by omega) (by omega) ht0 ht1 V hV0 hVs ce hp0 r hr' cd (by omega) (by omega) c7 w
      have hrr : r = R.length := by omega
      have hok : digOk R 4 = true := by rw [hdk]; simp; omega
      have hQ : numP l = numOf false D R := by rw [hQ0]; simp [restOf, hok]
      have hRa : R.all isDig = true := (dig_all hok).2.2
      obtain ⟨S, hS⟩ : ∃ S, S = R ++ List.replicate (4 - R.length) 48 := ⟨_, rfl⟩
      have hSl : S.length = 4 := by rw [hS]; simp; omega
      have hSa : S.all isDig = true := by
        have := pad_all [] R rfl hRa
        rw [hS]; simpa using this
      obtain ⟨U, hU⟩ : ∃ U : Nat → Nat, U = fun j => valL (D ++ S.take j) := ⟨_, rfl⟩
      have hU4 : valL (D ++ (R ++ List.replicate (4 - R.length) 48)) = U 4 := by rw [hU, ← hS]; show _ = valL (D ++ S.take 4); rw [List.take_of_length_le (by omega)]
      have hU0 := Lib.hid (show V k = U 0 by rw [hV, hU]; show valL (D.take k) = valL (D ++ S.take 0); rw [List.take_of_length_le (by omega)]; simp)
      have hUb := Lib.hid (show ∀ j, j < 4 → U j ≤ 1000000000000000000 ∧ U (j + 1) ≤ 18446744073709551615 by
        intro j hj
        have e := loopU D S hDa (by omega) hSa hSl j hj
        rw [hU]
        exact ⟨e.1, e.2.1⟩)
      have hUs := Lib.hid (show ∀ j (_ : j < r) (h : k + 1 + j < (⟨l.toArray⟩ : ByteArray).size), 48 ≤ ((⟨l.toArray⟩ : ByteArray)[k + 1 + j]'h).toNat ∧ ((⟨l.toArray⟩ : ByteArray)[k + 1 + j]'h).toNat ≤ 57 ∧ U (j + 1) = U j * 10 + (((⟨l.toArray⟩ : ByteArray)[k + 1 + j]'h).toNat - 48) by
        intro j hj h
        have h2 : k + 1 + j < l.length := by have : k + 1 + j < l.toArray.size := h; simpa using this
        have e := loopU D S hDa (by omega) hSa hSl j (by omega)
        have g1 : S[j]'(by omega) = R[j]'(by omega) := by rw [List.getElem_of_eq hS (by omega), List.getElem_append_left (by omega)]
        have g2 : R[j]'(by omega) = l[k + 1 + j] := by rw [List.getElem_of_eq hR (by omega), List.getElem_drop]
        have g3 := dig_range hRa j (by omega)
        rw [g2] at g3
        rw [g1, g2] at e
        rw [hU]
        exact ⟨g3.1, g3.2, e.2.2⟩)
      have hUz := Lib.hid (show ∀ j, r ≤ j → j < 4 → U (j + 1) = U j * 10 by
        intro j h1 h2
        have e := loopU D S hDa (by omega) hSa hSl j h2
        have g1 : S[j]'(by omega) = 48 := by rw [List.getElem_of_eq hS (by omega), List.getElem_append_right (by omega)]; simp
        rw [g1] at e
        rw [hU]
        exact e.2.2)
      clear hV hU
      by_cases hf : 9223372036854775807 < U 4
      · have hN : numP l = .none := by rw [hQ]; exact num_no0 hU4 hf _
        rw [(numV_eq hN).1, (numV_eq hN).2]
        exact rp0_good0 l k hl hs0 hs1 hK (by omega) (by omega) (by omega) ht0 ht1 V hV0 hVs ce hp0 r hr' cd (by omega) (by omega) (by omega) (by omega) U hU0 hUb hUs hUz hf w
      · have hN : numP l = some (U 4 : Int) := by rw [hQ]; exact num_yes0 hU4 (by omega)
        rw [(numV_eq hN).1, (numV_eq hN).2]
        exact rp0_good1 l k hl hs0 hs1 hK (by omega) (by omega) (by omega) ht0 ht1 V hV0 hVs ce hp0 r hr' cd (by omega) (by omega) (by omega) (by omega) U hU0 hUb hUs hUz (by omega) w
    · have hN : numP l = .none := by
        rw [hQ0]
        have : l[k] ≠ 46 := fun e => cd (by have e2 : ((⟨l.toArray⟩ : ByteArray)[k]'hp0) = 46 := e; rw [e2]; rfl)
        simp [restOf, this]
      rw [(numV_eq hN).1, (numV_eq hN).2]
      exact rp0_dotless l k hl hs0 hs1 hK (by omega) (by omega) (by omega) ht0 ht1 V hV0 hVs ce hp0 r hr' cd w
  · have hdr : t.drop k = [] := List.drop_eq_nil_of_le (by omega)
    rw [hdr] at hQ0
    have hQ : numP l = numOf false D [] := by rw [hQ0]; simp [restOf]
    obtain ⟨S, hS⟩ : ∃ S : List UInt8, S = [48, 48, 48, 48] := ⟨_, rfl⟩
    have hSl : S.length = 4 := by rw [hS]; rfl
    have hSa : S.all isDig = true := by rw [hS]; decide
    obtain ⟨U, hU⟩ : ∃ U : Nat → Nat, U = fun j => valL (D ++ S.take j) := ⟨_, rfl⟩
    have hU4 : valL (D ++ ([] ++ List.replicate (4 - ([] : List UInt8).length) 48)) = U 4 := by rw [hU, hS]; rfl
    have hU0 := Lib.hid (show V k = U 0 by rw [hV, hU]; show valL (D.take k) = valL (D ++ S.take 0); rw [List.take_of_length_le (by omega)]; simp)
    have hUb := Lib.hid (show ∀ j, j < 4 → U j ≤ 1000000000000000000 ∧ U (j + 1) ≤ 18446744073709551615 by
      intro j hj
      have e := loopU D S hDa (by omega) hSa hSl j hj
      rw [hU]
      exact ⟨e.1, e.2.1⟩)
    have hUz := Lib.hid (show ∀ j, j < 4 → U (j + 1) = U j * 10 by
      intro j h2
      have e := loopU D S hDa (by omega) hSa hSl j h2
      have g1 : S[j]'(by omega) = 48 := by
        have : j = 0 ∨ j = 1 ∨ j = 2 ∨ j = 3 := by omega
        subst hS
        rcases this with rfl | rfl | rfl | rfl <;> rfl
      rw [g1] at e
      rw [hU]
      exact e.2.2)
    clear hV hU
    by_cases hf : 9223372036854775807 < U 4
    · have hN : numP l = .none := by rw [hQ]; exact num_no0 hU4 hf _
      rw [(numV_eq hN).1, (numV_eq hN).2]
      exact rp0_end0 l k hl hs0 hs1 hK (by omega) (by omega) (by omega) ht0 ht1 V hV0 hVs (by omega) U hU0 hUb hUz hf w
    · have hN : numP l = some (U 4 : Int) := by rw [hQ]; exact num_yes0 hU4 (by omega)
      rw [(numV_eq hN).1, (numV_eq hN).2]
      exact rp0_end1 l k hl hs0 hs1 hK (by omega) (by omega) (by omega) ht0 ht1 V hV0 hVs (by omega) U hU0 hUb hUz (by omega) w
set_option maxHeartbeats 1000000 in
theorem rdjoin1 (l : List UInt8) (hl : l.length ≤ 9223372036854775807) (hlow : lowOf l = true) (w : World) : Calls Tryz.prog 98 #[.string ⟨l.toArray⟩] w fun e w' => e = .returned (.tuple #[.int .i64 (numV l), .bool (numOk l)]) ∧ w = w' := by
  obtain ⟨hs0, hs1⟩ := low_byte hlow
  have hl0 : 0 < l.length := by have : 0 < l.toArray.size := hs0; simpa using this
  have htl := tail_yes hlow
  obtain ⟨t, ht⟩ : ∃ t, t = l.drop 1 := ⟨_, rfl⟩
  have hP : numP l = bodyOf true t := by unfold numP; rw [hlow, htl, ht]
  clear htl hlow
  obtain ⟨k, hk⟩ : ∃ k, (t.takeWhile isDig).length = k := ⟨_, rfl⟩
  have hK := Lib.hid (show ((l.drop 1).takeWhile isDig).length = k by rw [← ht]; exact hk)
  have tl : t.length = l.length - 1 := by rw [ht]; simp
  have hkt : k ≤ t.length := by rw [← hk]; exact rtw_len t
  have hw15 := whole_dig2 t k hk
  have hDt := rtw_take t
  have hDd := rtw_drop t
  have hDa := rtw_all t
  rw [hk] at hDt hDd
  obtain ⟨D, hD⟩ : ∃ D, t.takeWhile isDig = D := ⟨_, rfl⟩
  by_cases c0 : k < 1
  · have hN : numP l = .none := by rw [hP]; exact body_none (whole_dig (by rw [hw15]; simp; omega))
    rw [(numV_eq hN).1, (numV_eq hN).2]
    exact rp1_k0 l k hl hl0 hs0 hs1 hK c0 w
  by_cases c1 : 15 < k
  · have hN : numP l = .none := by rw [hP]; exact body_none (whole_dig (by rw [hw15]; simp; omega))
    rw [(numV_eq hN).1, (numV_eq hN).2]
    exact rp1_k16 l k hl hl0 hs0 hs1 hK c1 w
  have ht0 : 1 < (⟨l.toArray⟩ : ByteArray).size := by show 1 < l.toArray.size; simp; omega
  rw [hD] at hk hDt hDa hw15
  have hw15 : digOk D 15 = true := by rw [hw15]; simp; omega
  have hget : ∀ j (h : j < D.length) (h2 : 1 + j < l.length), D[j] = l[1 + j] := by
    intro j h h2
    have e1 : D[j] = t[j]'(by omega) := by
      have : D = t.take k := hDt.symm
      rw [List.getElem_of_eq this h, List.getElem_take]
    rw [e1, List.getElem_of_eq ht (by omega)]
    rw [List.getElem_drop]
  have hb1 : 0 < (⟨D.toArray⟩ : ByteArray).size := by show 0 < D.toArray.size; simp; omega
  have hh : ((⟨D.toArray⟩ : ByteArray)[0]'hb1).toNat = ((⟨l.toArray⟩ : ByteArray)[1]'ht0).toNat := by
    have := hget 0 (by omega) (by omega)
    exact congrArg UInt8.toNat this
  by_cases cl : 1 < k ∧ ((⟨l.toArray⟩ : ByteArray)[1]'ht0).toNat = 48
  · have hN : numP l = .none := by rw [hP]; exact body_none (by rw [hD]; exact whole_lead (by omega) hb1 (by rw [hh]; exact cl.2))
    rw [(numV_eq hN).1, (numV_eq hN).2]
    exact rp1_lead l k hl hl0 hs0 hs1 hK cl.1 (by omega) ht0 cl.2 w
  have hwk : wholeOk D = true := by
    by_cases c2 : 1 < k
    · exact whole_more hw15 (by omega) hb1 (by rw [hh]; exact fun e => cl ⟨c2, e⟩)
    · exact whole_one hw15 (by omega)
  have ht1 : ((⟨l.toArray⟩ : ByteArray)[1]'ht0).toNat = 48 ∧ k < 2 ∨ ¬ ((⟨l.toArray⟩ : ByteArray)[1]'ht0).toNat = 48 := by
    by_cases c3 : ((⟨l.toArray⟩ : ByteArray)[1]'ht0).toNat = 48
    · left; exact ⟨c3, by have : ¬ 1 < k := fun c2 => cl ⟨c2, c3⟩; omega⟩
    · right; exact c3
  have hQ0 := hP
  rw [body_rest (by rw [hD]; exact hwk), hD, ← hDd] at hQ0
  obtain ⟨V, hV⟩ : ∃ V : Nat → Nat, V = fun j => valL (D.take j) := ⟨_, rfl⟩
  have hV0 := Lib.hid (show V 0 = 0 by rw [hV]; rfl)
  have hVs := Lib.hid (show ∀ j (_ : j < k) (h : 1 + j < (⟨l.toArray⟩ : ByteArray).size), 48 ≤ ((⟨l.toArray⟩ : ByteArray)[1 + j]'h).toNat ∧ ((⟨l.toArray⟩ : ByteArray)[1 + j]'h).toNat ≤ 57 ∧ V j ≤ 1000000000000000 ∧ V (j + 1) = V j * 10 + (((⟨l.toArray⟩ : ByteArray)[1 + j]'h).toNat - 48) by
    intro j hj h
    have h2 : 1 + j < l.length := by have : 1 + j < l.toArray.size := h; simpa using this
    have e := loopV D hDa (by omega) j (by omega)
    rw [hget j (by omega) h2] at e
    rw [hV]
    exact e)
  by_cases ce : 1 + k < l.length
  · have hp0 : 1 + k < (⟨l.toArray⟩ : ByteArray).size := by show 1 + k < l.toArray.size; simpa using ce
    obtain ⟨R, hR⟩ : ∃ R, R = l.drop (1 + k + 1) := ⟨_, rfl⟩
    have hRl : R.length = l.length - (1 + k + 1) := by rw [hR]; simp
    have hdr : t.drop k = l[1 + k] :: R := by
      rw [ht, hR, List.drop_drop, List.drop_eq_getElem_cons (by omega)]
    rw [hdr] at hQ0
    obtain ⟨r, hr⟩ : ∃ r, (R.takeWhile isDig).length = r := ⟨_, rfl⟩
    have hr' := Lib.hid (show ((l.drop (1 + k + 1)).takeWhile isDig).length = r by rw [← hR]; exact hr)
    have hrR : r ≤ R.length := by rw [← hr]; exact rtw_len R
    have hdk := rest_dig R r hr
    by_cases cd : ((⟨l.toArray⟩ : ByteArray)[1 + k]'hp0).toNat = 46
    · have cd2 : l[1 + k] = 46 := UInt8.toNat_inj.1 cd
      rw [cd2] at hQ0
      by_cases c5 : r < 1
      · have hno : digOk R 4 = false := by rw [hdk]; simp; omega
        have hN : numP l = .none := by rw [hQ0]; simp [restOf, hno]
        rw [(numV_eq hN).1, (numV_eq hN).2]
        exact rp1_r0 l k hl hl0 hs0 hs1 hK (by omega) (by omega) (by omega) ht0 ht1 V hV0 hVs ce hp0 r hr' cd c5 w
      by_cases c6 : 4 < r
      · have hno : digOk R 4 = false := by rw [hdk]; simp; omega
        have hN : numP l = .none := by rw [hQ0]; simp [restOf, hno]
        rw [(numV_eq hN).1, (numV_eq hN).2]
        exact rp1_r5 l k hl hl0 hs0 hs1 hK (by omega) (by omega) (by omega) ht0 ht1 V hV0 hVs ce hp0 r hr' cd c6 w
      by_cases c7 : 1 + k + 1 + r < l.length
      · have hno : digOk R 4 = false := by rw [hdk]; simp; omega
        have hN : numP l = .none := by rw [hQ0]; simp [restOf, hno]
        rw [(numV_eq hN).1, (numV_eq hN).2]
        exact rp1_rem l k hl hl0 hs0 hs1 hK (by omega) (by omega) (by omega) ht0 ht1 V hV0 hVs ce hp0 r hr' cd (by omega) (by omega) c7 w
      have hrr : r = R.length := by omega
      have hok : digOk R 4 = true := by rw [hdk]; simp; omega
      have hQ : numP l = numOf true D R := by rw [hQ0]; simp [restOf, hok]
      have hRa : R.all isDig = true := (dig_all hok).2.2
      obtain ⟨S, hS⟩ : ∃ S, S = R ++ List.replicate (4 - R.length) 48 := ⟨_, rfl⟩
      have hSl : S.length = 4 := by rw [hS]; simp; omega
      have hSa : S.all isDig = true := by
        have := pad_all [] R rfl hRa
        rw [hS]; simpa using this
      obtain ⟨U, hU⟩ : ∃ U : Nat → Nat, U = fun j => valL (D ++ S.take j) := ⟨_, rfl⟩
      have hU4 : valL (D ++ (R ++ List.replicate (4 - R.length) 48)) = U 4 := by rw [hU, ← hS]; show _ = valL (D ++ S.take 4); rw [List.take_of_length_le (by omega)]
      have hU0 := Lib.hid (show V k = U 0 by rw [hV, hU]; show valL (D.take k) = valL (D ++ S.take 0); rw [List.take_of_length_le (by omega)]; simp)
      have hUb := Lib.hid (show ∀ j, j < 4 → U j ≤ 1000000000000000000 ∧ U (j + 1) ≤ 18446744073709551615 by
        intro j hj
        have e := loopU D S hDa (by omega) hSa hSl j hj
        rw [hU]
        exact ⟨e.1, e.2.1⟩)
      have hUs := Lib.hid (show ∀ j (_ : j < r) (h : 1 + k + 1 + j < (⟨l.toArray⟩ : ByteArray).size), 48 ≤ ((⟨l.toArray⟩ : ByteArray)[1 + k + 1 + j]'h).toNat ∧ ((⟨l.toArray⟩ : ByteArray)[1 + k + 1 + j]'h).toNat ≤ 57 ∧ U (j + 1) = U j * 10 + (((⟨l.toArray⟩ : ByteArray)[1 + k + 1 + j]'h).toNat - 48) by
        intro j hj h
        have h2 : 1 + k + 1 + j < l.length := by have : 1 + k + 1 + j < l.toArray.size := h; simpa using this
        have e := loopU D S hDa (by omega) hSa hSl j (by omega)
        have g1 : S[j]'(by omega) = R[j]'(by omega) := by rw [List.getElem_of_eq hS (by omega), List.getElem_append_left (by omega)]
        have g2 : R[j]'(by omega) = l[1 + k + 1 + j] := by rw [List.getElem_of_eq hR (by omega), List.getElem_drop]
        have g3 := dig_range hRa j (by omega)
        rw [g2] at g3
        rw [g1, g2] at e
        rw [hU]
        exact ⟨g3.1, g3.2, e.2.2⟩)
      have hUz := Lib.hid (show ∀ j, r ≤ j → j < 4 → U (j + 1) = U j * 10 by
        intro j h1 h2
        have e := loopU D S hDa (by omega) hSa hSl j h2
        have g1 : S[j]'(by omega) = 48 := by rw [List.getElem_of_eq hS (by omega), List.getElem_append_right (by omega)]; simp
        rw [g1] at e
        rw [hU]
        exact e.2.2)
      clear hV hU
      by_cases hf : 9223372036854775807 < U 4
      · have hN : numP l = .none := by rw [hQ]; exact num_no0 hU4 hf _
        rw [(numV_eq hN).1, (numV_eq hN).2]
        exact rp1_good0 l k hl hl0 hs0 hs1 hK (by omega) (by omega) (by omega) ht0 ht1 V hV0 hVs ce hp0 r hr' cd (by omega) (by omega) (by omega) (by omega) U hU0 hUb hUs hUz hf w
      · by_cases hf0 : U 4 = 0
        · have hN : numP l = .none := by rw [hQ]; exact num_no2 (by rw [hU4]; exact hf0)
          rw [(numV_eq hN).1, (numV_eq hN).2]
          exact rp1_good2 l k hl hl0 hs0 hs1 hK (by omega) (by omega) (by omega) ht0 ht1 V hV0 hVs ce hp0 r hr' cd (by omega) (by omega) (by omega) (by omega) U hU0 hUb hUs hUz hf0 w
        · have hN : numP l = some (-(U 4 : Int)) := by rw [hQ]; exact num_yes1 hU4 (by omega) (by omega)
          rw [(numV_eq hN).1, (numV_eq hN).2]
          exact rp1_good1 l k hl hl0 hs0 hs1 hK (by omega) (by omega) (by omega) ht0 ht1 V hV0 hVs ce hp0 r hr' cd (by omega) (by omega) (by omega) (by omega) U hU0 hUb hUs hUz (by omega) (by omega) w
    · have hN : numP l = .none := by
        rw [hQ0]
        have : l[1 + k] ≠ 46 := fun e => cd (by have e2 : ((⟨l.toArray⟩ : ByteArray)[1 + k]'hp0) = 46 := e; rw [e2]; rfl)
        simp [restOf, this]
      rw [(numV_eq hN).1, (numV_eq hN).2]
      exact rp1_dotless l k hl hl0 hs0 hs1 hK (by omega) (by omega) (by omega) ht0 ht1 V hV0 hVs ce hp0 r hr' cd w
  · have hdr : t.drop k = [] := List.drop_eq_nil_of_le (by omega)
    rw [hdr] at hQ0
    have hQ : numP l = numOf true D [] := by rw [hQ0]; simp [restOf]
    obtain ⟨S, hS⟩ : ∃ S : List UInt8, S = [48, 48, 48, 48] := ⟨_, rfl⟩
    have hSl : S.length = 4 := by rw [hS]; rfl
    have hSa : S.all isDig = true := by rw [hS]; decide
    obtain ⟨U, hU⟩ : ∃ U : Nat → Nat, U = fun j => valL (D ++ S.take j) := ⟨_, rfl⟩
    have hU4 : valL (D ++ ([] ++ List.replicate (4 - ([] : List UInt8).length) 48)) = U 4 := by rw [hU, hS]; rfl
    have hU0 := Lib.hid (show V k = U 0 by rw [hV, hU]; show valL (D.take k) = valL (D ++ S.take 0); rw [List.take_of_length_le (by omega)]; simp)
    have hUb := Lib.hid (show ∀ j, j < 4 → U j ≤ 1000000000000000000 ∧ U (j + 1) ≤ 18446744073709551615 by
      intro j hj
      have e := loopU D S hDa (by omega) hSa hSl j hj
      rw [hU]
      exact ⟨e.1, e.2.1⟩)
    have hUz := Lib.hid (show ∀ j, j < 4 → U (j + 1) = U j * 10 by
      intro j h2
      have e := loopU D S hDa (by omega) hSa hSl j h2
      have g1 : S[j]'(by omega) = 48 := by
        have : j = 0 ∨ j = 1 ∨ j = 2 ∨ j = 3 := by omega
        subst hS
        rcases this with rfl | rfl | rfl | rfl <;> rfl
      rw [g1] at e
      rw [hU]
      exact e.2.2)
    clear hV hU
    by_cases hf : 9223372036854775807 < U 4
    · have hN : numP l = .none := by rw [hQ]; exact num_no0 hU4 hf _
      rw [(numV_eq hN).1, (numV_eq hN).2]
      exact rp1_end0 l k hl hl0 hs0 hs1 hK (by omega) (by omega) (by omega) ht0 ht1 V hV0 hVs (by omega) U hU0 hUb hUz hf w
    · by_cases hf0 : U 4 = 0
      · have hN : numP l = .none := by rw [hQ]; exact num_no2 (by rw [hU4]; exact hf0)
        rw [(numV_eq hN).1, (numV_eq hN).2]
        exact rp1_end2 l k hl hl0 hs0 hs1 hK (by omega) (by omega) (by omega) ht0 ht1 V hV0 hVs (by omega) U hU0 hUb hUz hf0 w
      · have hN : numP l = some (-(U 4 : Int)) := by rw [hQ]; exact num_yes1 hU4 (by omega) (by omega)
        rw [(numV_eq hN).1, (numV_eq hN).2]
        exact rp1_end1 l k hl hl0 hs0 hs1 hK (by omega) (by omega) (by omega) ht0 ht1 V hV0 hVs (by omega) U hU0 hUb hUz (by omega) (by omega) w
theorem rdparse_any (s : ByteArray) (hs : s.size ≤ maxLen) (w : World) : Calls Tryz.prog 98 #[.string s] w fun e w' => e = .returned (.tuple #[.int .i64 (numV s.data.toList), .bool (numOk s.data.toList)]) ∧ w = w' := by
  have hl : s.data.toList.length ≤ 9223372036854775807 := by unfold maxLen at hs; exact hs
  cases h : lowOf s.data.toList
  · exact rdjoin0 s.data.toList hl h w
  · exact rdjoin1 s.data.toList hl h w
end Go.Proofs.YtgmhifafbebjfaaGreatDoor
