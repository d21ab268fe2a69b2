/-
  Plain laws: texts joined; one text put for another; Plain laws for the document's functions of texts: words, scans, letters; the document's texts: told, whole, stands.
-/
import Derived.Test.YtgmhifafbebjfaaGreatDoorTDoA
import Derived.Lib.Repeat
import Derived.Lib.IndexMore
namespace Go.Proofs.YtgmhifafbebjfaaGreatDoor
open Go.RowKit

def joinL : List ByteArray → List UInt8
  | [] => []
  | s :: r => s.data.toList ++ joinL r
def joinS (l : List ByteArray) : ByteArray := ⟨(joinL l).toArray⟩
theorem joinS_size (l : List ByteArray) : (joinS l).size = (joinL l).length := by simp [joinS, ByteArray.size]
theorem joinL_append (l r : List ByteArray) : joinL (l ++ r) = joinL l ++ joinL r := by
  induction l with
  | nil => rfl
  | cons s l ih => simp [joinL, ih]
theorem joinL_take_le (l : List ByteArray) (k : Nat) : (joinL (l.take k)).length ≤ (joinL l).length := by
  have h : joinL l = joinL (l.take k) ++ joinL (l.drop k) := by rw [← joinL_append, List.take_append_drop]
  rw [h, List.length_append]
  omega
/-- a text with one text for another -/
def substL (t u : List UInt8) : Nat → List UInt8 → List UInt8
  | 0, s => s
  | k + 1, s => if (Lib.cut s t).2.2 = true then (Lib.cut s t).1 ++ u ++ substL t u k (Lib.cut s t).2.1 else (Lib.cut s t).1
/-- an index that is told is one of an instance -/
theorem index_occ : ∀ (s sub : List UInt8), 0 ≤ Lib.index s sub → ∃ i : Nat, Lib.index s sub = (i : Int) ∧ i ≤ s.length ∧ Lib.occAt s sub i = true ∧ ∀ j, j < i → Lib.occAt s sub j = false
  | [], sub, h => by
    unfold Lib.index at h ⊢
    cases sub with
    | nil => exact ⟨0, rfl, Nat.le_refl _, rfl, fun j hj => absurd hj (Nat.not_lt_zero _)⟩
    | cons a t => simp at h
  | b :: l, sub, h => by
    unfold Lib.index at h ⊢
    by_cases h0 : sub.isPrefixOf (b :: l) = true
    · rw [if_pos h0]
      exact ⟨0, rfl, Nat.zero_le _, h0, fun j hj => absurd hj (Nat.not_lt_zero _)⟩
    · rw [if_neg h0] at h ⊢
      have hx := Lib.index_ge l sub
      by_cases h1 : (Lib.index l sub == -1) = true
      · rw [if_pos h1] at h
        omega
      · rw [if_neg h1] at h ⊢
        have h2 : Lib.index l sub ≠ -1 := by simpa using h1
        obtain ⟨i, hi, hl, ho, hn⟩ := index_occ l sub (by omega)
        refine ⟨i + 1, by rw [hi]; rfl, by simp; omega, by simpa [Lib.occAt] using ho, fun j hj => ?_⟩
        cases j with
        | zero => exact Bool.not_eq_true _ ▸ h0
        | succ j => simpa [Lib.occAt] using hn j (by omega)
theorem cut_yes {s t : List UInt8} (h : (Lib.cut s t).2.2 = true) : s = (Lib.cut s t).1 ++ t ++ (Lib.cut s t).2.1 := by
  unfold Lib.cut at h ⊢
  by_cases h0 : 0 ≤ Lib.index s t
  · rw [if_pos h0]
    obtain ⟨i, hi, hl, ho, _⟩ := index_occ s t h0
    rw [hi]
    obtain ⟨r, hr⟩ := List.isPrefixOf_iff_prefix.1 ho
    simp only [Int.toNat_natCast]
    have h1 : s = s.take i ++ s.drop i := (List.take_append_drop i s).symm
    have h2 : s.drop (i + t.length) = r := by
      rw [← List.drop_drop, ← hr, List.drop_left]
    rw [h2, List.append_assoc, hr]
    exact h1
  · rw [if_neg h0] at h; simp at h
theorem cut_no {s t : List UInt8} (h : ¬ (Lib.cut s t).2.2 = true) : (Lib.cut s t).1 = s := by
  unfold Lib.cut at h ⊢
  by_cases h0 : 0 ≤ Lib.index s t
  · rw [if_pos h0] at h; simp at h
  · rw [if_neg h0]
end Go.Proofs.YtgmhifafbebjfaaGreatDoor
namespace Go.Proofs.YtgmhifafbebjfaaGreatDoor
open Go.RowKit

/-- what stands between blanks -/
def frags : List UInt8 → List (List UInt8)
  | [] => [[]]
  | c :: r => if c = 32 then [] :: frags r else match frags r with
    | h :: t => (c :: h) :: t
    | [] => [[c]]
def fullB (x : List UInt8) : Bool := !x.isEmpty
def joinW : List (List UInt8) → List UInt8
  | [] => []
  | [x] => x
  | x :: y :: r => x ++ 32 :: joinW (y :: r)
/-- the words of a text, one blank between two -/
def trimW (s : List UInt8) : List UInt8 := joinW ((frags s).filter fullB)
theorem frags_ne : ∀ s : List UInt8, ∃ h t, frags s = h :: t
  | [] => ⟨[], [], rfl⟩
  | c :: r => by
    obtain ⟨h, t, e⟩ := frags_ne r
    unfold frags
    split
    · exact ⟨_, _, rfl⟩
    · rw [e]; exact ⟨_, _, rfl⟩
theorem frags_blank (r : List UInt8) : frags (32 :: r) = [] :: frags r := by simp [frags]
theorem frags_other {c : UInt8} (hc : ¬ c = 32) {r h : List UInt8} {t : List (List UInt8)} (e : frags r = h :: t) : frags (c :: r) = (c :: h) :: t := by
  simp only [frags, if_neg hc, e]
theorem frags_none : ∀ {p : List UInt8}, (∀ c ∈ p, ¬ c = 32) → frags p = [p]
  | [], _ => rfl
  | c :: p, h => frags_other (h c (by simp)) (frags_none fun x hx => h x (by simp [hx]))
theorem frags_cut : ∀ {p q : List UInt8}, (∀ c ∈ p, ¬ c = 32) → frags (p ++ 32 :: q) = p :: frags q
  | [], q, _ => frags_blank q
  | c :: p, q, h => frags_other (h c (by simp)) (frags_cut fun x hx => h x (by simp [hx]))
theorem joinW_cons (x : List UInt8) (t : List (List UInt8)) : joinW (x :: t) = x ++ if t = [] then [] else 32 :: joinW t := by
  cases t with
  | nil => simp [joinW]
  | cons y r => simp [joinW]
theorem words_none : ∀ {s : List UInt8}, (∀ c ∈ s, c = 32) → (frags s).filter fullB = []
  | [], _ => by simp [frags, fullB]
  | c :: r, h => by
    obtain rfl := h c (by simp)
    rw [frags_blank, List.filter_cons, if_neg (by simp [fullB])]
    exact words_none fun x hx => h x (by simp [hx])
theorem words_some : ∀ {s : List UInt8}, (∃ c ∈ s, ¬ c = 32) → (frags s).filter fullB ≠ []
  | [], h => by obtain ⟨c, hc, _⟩ := h; cases hc
  | c :: r, h => by
    by_cases hc : c = 32
    · subst hc
      rw [frags_blank, List.filter_cons, if_neg (by simp [fullB])]
      obtain ⟨x, hx, h9⟩ := h
      rcases List.mem_cons.1 hx with rfl | hx
      · exact absurd rfl h9
      · exact words_some ⟨x, hx, h9⟩
    · obtain ⟨p, t, e⟩ := frags_ne r
      rw [frags_other hc e, List.filter_cons, if_pos (by simp [fullB])]
      simp
/-- what the document's trim has put down -/
def trimF : List UInt8 → List UInt8 → List UInt8
  | out, [] => out
  | out, c :: r => trimF (if c ≠ 32 ∨ ((∃ x ∈ r, x ≠ 32) ∧ ∃ y, out.getLast? = some y ∧ y ≠ 32) then out ++ [c] else out) r
theorem trim_told : ∀ (r out : List UInt8),
    (out = [] → trimF out r = trimW r) ∧
    (∀ y, out.getLast? = some y → ¬ y = 32 → ∀ h t, frags r = h :: t → trimF out r = out ++ h ++ if t.filter fullB = [] then [] else 32 :: joinW (t.filter fullB)) ∧
    (out.getLast? = some 32 → (∃ x ∈ r, ¬ x = 32) → trimF out r = out ++ trimW r)
  | [], out => by
    refine ⟨fun e => by subst e; simp [trimF, trimW, frags, fullB, joinW], fun y _ _ h t e => ?_, fun _ h => ?_⟩
    · simp only [frags] at e
      injection e with e1 e2
      subst e1 e2
      simp [trimF]
    · obtain ⟨x, hx, _⟩ := h; cases hx
  | c :: r, out => by
    have last1 : ∀ o : List UInt8, (o ++ [c]).getLast? = some c := fun o => by simp
    obtain ⟨p, q, e⟩ := frags_ne r
    by_cases hc : c = 32
    · subst hc
      refine ⟨fun h => ?_, fun y hy hn h t e2 => ?_, fun hl h => ?_⟩
      · subst h
        unfold trimF
        rw [if_neg (by simp), (trim_told r []).1 rfl]
        unfold trimW
        rw [frags_blank, List.filter_cons, if_neg (by simp [fullB])]
      · rw [frags_blank] at e2
        injection e2 with e3 e4
        subst e3 e4
        unfold trimF
        by_cases hm : ∃ x ∈ r, ¬ x = 32
        · rw [if_pos (Or.inr ⟨hm, y, hy, hn⟩), (trim_told r _).2.2 (last1 _) hm, if_neg (words_some hm)]
          simp [trimW]
        · rw [if_neg (by
            rintro (h9 | ⟨h9, _⟩)
            · exact h9 rfl
            · exact hm h9)]
          have hall : ∀ x ∈ r, x = 32 := fun x hx => Classical.byContradiction fun h9 => hm ⟨x, hx, h9⟩
          have hw := words_none hall
          rw [(trim_told r out).2.1 y hy hn p q e]
          rw [e, List.filter_cons] at hw
          by_cases hp : fullB p = true
          · rw [if_pos hp] at hw; cases hw
          · rw [if_neg hp] at hw
            have hp0 : p = [] := by
              cases p with
              | nil => rfl
              | cons a b => simp [fullB] at hp
            rw [e, List.filter_cons, if_neg hp, if_pos hw, hp0]
      · unfold trimF
        rw [if_neg (by
          rintro (h9 | ⟨_, y, hy, h9⟩)
          · exact h9 rfl
          · rw [hl] at hy; injection hy with hy; exact h9 hy.symm)]
        have hm : ∃ x ∈ r, ¬ x = 32 := by
          obtain ⟨x, hx, h9⟩ := h
          rcases List.mem_cons.1 hx with rfl | hx
          · exact absurd rfl h9
          · exact ⟨x, hx, h9⟩
        rw [(trim_told r out).2.2 hl hm]
        unfold trimW
        rw [frags_blank, List.filter_cons, if_neg (by simp [fullB])]
    · have hif : ∀ o : List UInt8, trimF o (c :: r) = trimF (o ++ [c]) r := fun o => by
        rw [trimF, if_pos (Or.inl hc)]
      have hB := fun o : List UInt8 => (trim_told r (o ++ [c])).2.1 c (last1 o) hc p q e
      have hw : trimW (c :: r) = c :: p ++ if q.filter fullB = [] then [] else 32 :: joinW (q.filter fullB) := by
        unfold trimW
        rw [frags_other hc e, List.filter_cons, if_pos (by simp [fullB]), joinW_cons]
      refine ⟨fun h => ?_, fun y _ _ h t e2 => ?_, fun _ _ => ?_⟩
      · subst h
        rw [hif, hB, hw]; simp
      · rw [frags_other hc e] at e2
        injection e2 with e3 e4
        subst e3 e4
        rw [hif, hB]; simp
      · rw [hif, hB, hw]; simp
theorem trim_all (s : List UInt8) : trimF [] s = trimW s := (trim_told s []).1 rfl
/-- one text for another, byte by byte -/
def scanR (t u : List UInt8) : Nat → List UInt8 → List UInt8
  | 0, _ => []
  | _ + 1, [] => []
  | k + 1, c :: r => if t.isPrefixOf (c :: r) = true then u ++ scanR t u k ((c :: r).drop t.length) else c :: scanR t u k r
theorem cut_nil {t : List UInt8} (ht : t ≠ []) : Lib.cut [] t = ([], [], false) := by
  unfold Lib.cut
  rw [if_neg]
  cases t with
  | nil => exact absurd rfl ht
  | cons a b => simp [Lib.index]
theorem cut_here {t s : List UInt8} (h : t.isPrefixOf s = true) : Lib.cut s t = ([], s.drop t.length, true) := by
  have h0 : Lib.index s t = 0 := Lib.index_hit (i := 0) (fun j hj => absurd hj (Nat.not_lt_zero _)) (Nat.zero_le _) h
  unfold Lib.cut
  rw [h0]
  simp
theorem cut_later {t r : List UInt8} {c : UInt8} (h : ¬ t.isPrefixOf (c :: r) = true) : Lib.cut (c :: r) t = (if (Lib.cut r t).2.2 = true then c :: (Lib.cut r t).1 else c :: r, (Lib.cut r t).2.1, (Lib.cut r t).2.2) := by
  have hg := Lib.index_ge r t
  unfold Lib.cut
  by_cases h1 : Lib.index r t = -1
  · have hx : Lib.index (c :: r) t = -1 := by rw [Lib.index, if_neg h, if_pos (by simpa using h1)]
    rw [hx, h1]; simp
  · have h2 : 0 ≤ Lib.index r t := by omega
    have hx : Lib.index (c :: r) t = Lib.index r t + 1 := by rw [Lib.index, if_neg h, if_neg (by simpa using h1)]
    rw [hx, if_pos (by omega), if_pos h2]
    obtain ⟨i, hi⟩ := Int.eq_ofNat_of_zero_le h2
    rw [hi]
    have e1 : ((i : Int) + 1).toNat = i + 1 := by omega
    simp only [e1, Int.toNat_natCast, List.take_succ_cons, if_true]
    rw [show i + 1 + t.length = i + t.length + 1 by omega, List.drop_succ_cons]
theorem subst_scan {t : List UInt8} (ht : t ≠ []) (u : List UInt8) : ∀ (n : Nat) (s : List UInt8), s.length < n → ∀ k, s.length < k → substL t u k s = scanR t u n s
  | 0, s, h, _, _ => absurd h (Nat.not_lt_zero _)
  | n + 1, s, h, 0, hk => absurd hk (Nat.not_lt_zero _)
  | n + 1, [], _, k + 1, _ => by
    unfold substL scanR
    rw [cut_nil ht]; simp
  | n + 1, c :: r, h, k + 1, hk => by
    unfold scanR
    have htl : 0 < t.length := List.length_pos_iff.2 ht
    simp only [List.length_cons] at h hk
    by_cases hp : t.isPrefixOf (c :: r) = true
    · rw [if_pos hp]
      have hl : ((c :: r).drop t.length).length ≤ r.length := by rw [List.length_drop, List.length_cons]; omega
      unfold substL
      rw [cut_here hp]
      simp only [if_true, List.nil_append]
      rw [subst_scan ht u n _ (by omega) k (by omega)]
    · rw [if_neg hp]
      have ih := subst_scan ht u n r (by omega) (k + 1) (by omega)
      rw [← ih]
      unfold substL
      rw [cut_later hp]
      by_cases hz : (Lib.cut r t).2.2 = true
      · simp only [hz, if_true, List.cons_append]
      · have := cut_no hz
        simp [hz, this]
end Go.Proofs.YtgmhifafbebjfaaGreatDoor
namespace Go.Proofs.YtgmhifafbebjfaaGreatDoor
open Go.RowKit

theorem rverr9 (c : Int) (w : World) : Calls Tryz.prog 20 #[.int .i64 c] w fun e w' => e = .returned (.agg #[.int .i64 4, .int .i64 0, .string ⟨#[]⟩, .bool false, .int .i64 (errC c)]) ∧ Below w.heap.size w w' := by
  unfold errC
  by_cases h : 1 ≤ c ∧ c ≤ 8
  · rw [if_pos h]; exact rverr_yes c h w
  · rw [if_neg h]; exact rverr_no c h w
theorem rvnum9 (x : Int) (hx : -9223372036854775808 ≤ x ∧ x ≤ 9223372036854775807) (w : World) : Calls Tryz.prog 99 #[.int .i64 x] w fun e w' => e = .returned (.agg #[.int .i64 (numT x), .int .i64 (numN x), .string ⟨#[]⟩, .bool false, .int .i64 (numF x)]) ∧ Below w.heap.size w w' := by
  unfold numT numN numF
  by_cases h : x = -9223372036854775808
  · rw [if_pos h, if_pos h, if_pos h]; exact rvnum_no x hx h w
  · rw [if_neg h, if_neg h, if_neg h]; exact rvnum_yes x hx h w
set_option maxHeartbeats 400000 in
theorem r9told (text : Int) (s : ByteArray) (_hs : s.size ≤ 9223372036854775807) (w : World) : Calls Tryz.prog 25 #[.string s, .int .i64 text] w fun e w' => e = .returned (.agg #[.int .i64 (toldT text s).t, .int .i64 (toldT text s).n, .string (toldT text s).s, .bool (toldT text s).b, .int .i64 (toldT text s).c]) ∧ Below w.heap.size w w' := by
  unfold toldT
  by_cases h : text < (s.size : Int)
  · rw [if_pos h]
    go_enter Tryz.func25, Tryz.ntmps25
    go_wp2_with (go_at_call 20; refine (rverr9 7 _).mono ?_; rintro e w1 ⟨rfl, hb⟩; obtain ⟨hc, hf, hz⟩ := bkeep hb (w.heap.size + 1) (by first | omega | (simp <;> omega)))
    refine bodyPost_ret (v := .agg #[.int .i64 4, .int .i64 0, .string ⟨#[]⟩, .bool false, .int .i64 (errC 7)]) ?_ rfl ⟨rfl, by (repeat (first | (with_reducible exact Below.refl _ _) | (with_reducible refine Below.alloc ?_ (by first | omega | (dsimp only; omega) | (simp <;> omega)) _) | (with_reducible refine Below.setCell ?_ (by first | omega | (dsimp only; omega) | (simp <;> omega)) _) | (with_reducible refine Below.drew ?_) | (with_reducible refine below_drewN ?_ _) | (with_reducible refine Below.trans ?_ (Below.mono (by assumption) (by first | omega | (dsimp only; omega) | (simp <;> omega))))))⟩
    simp [results, Tryz.results25, go_sem, *]
  · rw [if_neg h]
    go_enter Tryz.func25, Tryz.ntmps25
    go_wp2_with (go_at_call 91; refine (rvtxt_any s _).mono ?_; rintro e w1 ⟨rfl, hb⟩; obtain ⟨hc, hf, hz⟩ := bkeep hb (w.heap.size + 1) (by first | omega | (simp <;> omega)))
    refine bodyPost_ret (v := .agg #[.int .i64 (txtL s).t, .int .i64 (txtL s).n, .string (txtL s).s, .bool (txtL s).b, .int .i64 (txtL s).c]) ?_ rfl ⟨rfl, by (repeat (first | (with_reducible exact Below.refl _ _) | (with_reducible refine Below.alloc ?_ (by first | omega | (dsimp only; omega) | (simp <;> omega)) _) | (with_reducible refine Below.setCell ?_ (by first | omega | (dsimp only; omega) | (simp <;> omega)) _) | (with_reducible refine Below.drew ?_) | (with_reducible refine below_drewN ?_ _) | (with_reducible refine Below.trans ?_ (Below.mono (by assumption) (by first | omega | (dsimp only; omega) | (simp <;> omega))))))⟩
    simp [results, Tryz.results25, go_sem, txtL, *]
set_option maxHeartbeats 400000 in
theorem r9whole (n : Int) (hn : -922337203685477 ≤ n ∧ n ≤ 922337203685477) (w : World) : Calls Tryz.prog 94 #[.int .i64 n] w fun e w' => e = .returned (.agg #[.int .i64 (numL (n * 10000)).t, .int .i64 (numL (n * 10000)).n, .string (numL (n * 10000)).s, .bool (numL (n * 10000)).b, .int .i64 (numL (n * 10000)).c]) ∧ Below w.heap.size w w' := by
  go_enter Tryz.func94, Tryz.ntmps94
  go_wp2_with (go_at_call 99; refine (rvnum9 (n * 10000) (by omega) _).mono ?_; rintro e w1 ⟨rfl, hb⟩; obtain ⟨hc, hf, hz⟩ := bkeep hb (w.heap.size + 1) (by first | omega | (simp <;> omega)))
  refine bodyPost_ret (v := .agg #[.int .i64 (numL (n * 10000)).t, .int .i64 (numL (n * 10000)).n, .string (numL (n * 10000)).s, .bool (numL (n * 10000)).b, .int .i64 (numL (n * 10000)).c]) ?_ rfl ⟨rfl, by (repeat (first | (with_reducible exact Below.refl _ _) | (with_reducible refine Below.alloc ?_ (by first | omega | (dsimp only; omega) | (simp <;> omega)) _) | (with_reducible refine Below.setCell ?_ (by first | omega | (dsimp only; omega) | (simp <;> omega)) _) | (with_reducible refine Below.drew ?_) | (with_reducible refine below_drewN ?_ _) | (with_reducible refine Below.trans ?_ (Below.mono (by assumption) (by first | omega | (dsimp only; omega) | (simp <;> omega))))))⟩
  simp [results, Tryz.results94, go_sem, numL, *]
theorem ext_occ9 (s t : ByteArray) (m : Nat) (h : m + t.size ≤ s.size) : s.extract m (m + t.size) = t ↔ Lib.occAt s.data.toList t.data.toList m = true := by
  rw [Lib.occAt_iff_take s.data.toList t.data.toList m h, beq_iff_eq]
  have h1 : (s.extract m (m + t.size)).data.toList = (s.data.toList.drop m).take t.size := by
    simp [ByteArray.data_extract, Array.toList_extract, List.extract]
  constructor
  · intro h2
    rw [h2] at h1
    exact h1.symm
  · intro h2
    exact ByteArray.ext (Array.ext' (h1.trans h2))
set_option maxHeartbeats 1000000 in
theorem r9stands (s t : ByteArray) (a : Nat) (hs : s.size ≤ 4000000000000) (ht : t.size ≤ 4000000000000) (ha : a ≤ s.size) (z : Bool) (hz : Lib.occAt s.data.toList t.data.toList a = z) (w : World) : Calls Tryz.prog 93 #[.string s, .int .i64 (a : Int), .string t] w fun e w' => e = .returned (.bool z) ∧ w = w' := by
  by_cases h : a + t.size ≤ s.size
  · have hx := ext_occ9 s t a h
    rw [hz] at hx
    have h1 : 0 ≤ (a : Int) := by omega
    have h2 : (a : Int) ≤ (a : Int) + (t.size : Int) := by omega
    have h3 : (a : Int) + (t.size : Int) ≤ (s.size : Int) := by omega
    have h4 : ((a : Int) + (t.size : Int)).toNat = a + t.size := by omega
    have hxH := Lib.hid hx
    clear hx hz
    go_enter Tryz.func93, Tryz.ntmps93
    go_wp2
    go_ret
    have hd : decide (s.extract a (a + t.size) = t) = z := by rw [Bool.eq_iff_iff, decide_eq_true_iff]; exact hxH.out
    show Ending.returned (.bool (decide (s.extract a (a + t.size) = t))) = _ ∧ _
    rw [hd]
    exact ⟨rfl, rfl⟩
  · have hn : z = false := by
      rw [← hz]
      cases ho : Lib.occAt s.data.toList t.data.toList a with
      | false => rfl
      | true =>
        exfalso
        rcases Lib.occAt_room ho with h9 | h9
        · exact h h9
        · have : t.size = 0 := by show t.data.toList.length = 0; rw [h9]; rfl
          omega
    subst hn
    have h3 : ¬ (a : Int) + (t.size : Int) ≤ (s.size : Int) := by omega
    clear hz
    go_enter Tryz.func93, Tryz.ntmps93
    go_wp2
    go_ret
    exact ⟨rfl, rfl⟩
end Go.Proofs.YtgmhifafbebjfaaGreatDoor
