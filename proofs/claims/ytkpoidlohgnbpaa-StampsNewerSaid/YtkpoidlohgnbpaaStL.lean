/-
  stamps: the plain law: what the clock keeps, how numbering anew keeps the order; what the law of Newer keeps.
-/
import Derived.Test.YtkpoidlohgnbpaaRows
import Derived.Test.YtkpoidlohgnbpaaBase
import Derived.Test.YtkpoidlohgnbpaaStK
import Derived.Test.YtkpoidlohgnbpaaAddrC
import Derived.Test.YtkpoidlohgnbpaaStC
import Derived.Test.YtkpoidlohgnbpaaStD
import Derived.Test.YtkpoidlohgnbpaaProg
import Derived.Test.YtkpoidlohgnbpaaShelf
import Derived.Test.YtkpoidlohgnbpaaStE
import Derived.Test.YtkpoidlohgnbpaaEq
import Derived.Test.YtkpoidlohgnbpaaStG
import Derived.WalkKit
import Derived.ProofKit
import Derived.OpenShut
import Derived.Carry
import Derived.ChangeSame
import Derived.Lib.Hide
import Derived.Deep.Draws
import Derived.DeepKeys4
import Derived.Maps.OwnSet
import Derived.Maps.AppendAt
import Derived.Maps.RangeWalk
import Derived.WalkSpells
import Derived.WalkLawsBesides
import Derived.IntWalk
import Derived.StillTactics
import Derived.Laws.Pointers
import Derived.Deep.RegionHeld3
import Derived.Deep.QuietTactic
import Derived.BigQuiet
import Derived.RowKit3
import Derived.Lib.OthersKept
import Derived.OwnWalk
import Derived.Lib.IndexLaws
import Derived.StillTailTactics
import Derived.Lib.ItoaMem
import Derived.Shelf.Small.Bits
import Derived.Shelf.Strconv.Itoa0
import Derived.Shelf.Sort.Plain
import Derived.Ground.Names2Prog
import Derived.Shelf.Slices.SearchI
import Derived.Shelf.Slices.In.SortNone
import Derived.Shelf.Slices.Empties
import Derived.Sort.OwnSorted
import Derived.Sort.OwnSortedInts
import Derived.RangeFuncBox
namespace Go.Proofs.Ytkpoidlohgnbpaa
open Go.RowKit Go.Maps

/-- the stamp of a cell's change is above nought -/
def posC (f : CF) (c : Int × Int) : Bool := decide (0 < (getC f c).1)
theorem getC_upd_same (f : CF) (c : Int × Int) (s : Int × Int) : getC (updC f c (some s)) c = s := by simp [getC, updC]
theorem getC_upd_other (f : CF) (c d : Int × Int) (s : Option (Int × Int)) (h : d ≠ c) : getC (updC f c s) d = getC f d := by simp [getC, updC, h]
theorem getC_del_same (f : CF) (c : Int × Int) : getC (updC f c none) c = (0, 0) := by simp [getC, updC]
theorem cellEq_ne (c d : Int × Int) : cellEq c.1 c.2 d.1 d.2 = decide (c = d) := by
  unfold cellEq; rw [← Bool.decide_and]; congr 1; exact propext ⟨fun h => Prod.ext h.1 h.2, fun h => by rw [h]; exact ⟨rfl, rfl⟩⟩
theorem keys_perm {f : CF} {l : Int × Int → Bool} {ks ks' : List (Int × Int)} (h : Keys f l ks) (h' : Keys f l ks') : ks.Perm ks' := by
  rw [List.perm_iff_count]
  intro a
  have e : a ∈ ks ↔ a ∈ ks' := ⟨fun m => (h'.mem a (h.wf a m)).2 ((h.mem a (h.wf a m)).1 m), fun m => (h.mem a (h'.wf a m)).2 ((h'.mem a (h'.wf a m)).1 m)⟩
  rw [h.nodup.count, h'.nodup.count]
  simp only [e]
theorem count_off {α : Type} [DecidableEq α] (c : α) (p p' : α → Bool) (hp : ∀ d, d ≠ c → p d = p' d) : ∀ ks : List α, ks.Nodup → ks.countP p' + (if c ∈ ks ∧ p c = true then 1 else 0) = ks.countP p + (if c ∈ ks ∧ p' c = true then 1 else 0)
  | [], _ => by simp
  | d :: ks, h => by
    obtain ⟨h1, h2⟩ := List.nodup_cons.1 h
    have ih := count_off c p p' hp ks h2
    rw [List.countP_cons, List.countP_cons]
    by_cases e : d = c
    · subst e
      simp [h1] at ih ⊢
      cases p d <;> cases p' d <;> simp <;> omega
    · have e' : c ≠ d := fun x => e x.symm
      have := hp d e
      simp only [List.mem_cons, e', false_or]
      rw [this]; omega
theorem nodup_sub_len {α : Type} [DecidableEq α] : ∀ xs ys : List α, xs.Nodup → (∀ x ∈ xs, x ∈ ys) → xs.length ≤ ys.length
  | [], _, _, _ => by simp
  | x :: xs, ys, h, hs => by
    obtain ⟨h1, h2⟩ := List.nodup_cons.1 h
    have hx : x ∈ ys := hs x (by simp)
    have := nodup_sub_len xs (ys.erase x) h2 (fun y hy => (List.mem_erase_of_ne (fun (e : y = x) => h1 (by rw [← e]; exact hy))).2 (hs y (by simp [hy])))
    rw [List.length_erase_of_mem hx] at this
    have h0 : 0 < ys.length := List.length_pos_of_mem hx
    simp; omega
/-- a clock's stamps as they must stand -/
structure ClkInv (M : Int) (f : CF) (L ch : Int) : Prop where
  last : 0 ≤ L ∧ L < M
  st : ∀ c, 0 ≤ (getC f c).1 ∧ (getC f c).1 ≤ L ∧ 0 ≤ (getC f c).2 ∧ (getC f c).2 ≤ L
  inj : ∀ c d, 0 < (getC f c).1 → (getC f c).1 = (getC f d).1 → c = d
  dom : ∀ c, (f c).isSome = true → mayB c.1 c.2 = true
  cnt : ∃ ks, Keys f (fun _ => false) ks ∧ ch = (ks.countP (posC f) : Nat)
theorem mayB_w64 {c : Int × Int} (h : mayB c.1 c.2 = true) : W64 c := by
  simp [mayB] at h; unfold W64; omega
theorem ClkInv.start {M : Int} (h : 2 ≤ M) : ClkInv M (fun _ => none) 0 0 :=
  ⟨by omega, fun c => by simp [getC], fun c d h => by simp [getC] at h, fun c h => by simp at h, [], ⟨List.nodup_nil, by simp, by simp⟩, by simp⟩
theorem ClkInv.count {M L ch : Int} {f : CF} (h : ClkInv M f L ch) {ks : List (Int × Int)} (hk : Keys f (fun _ => false) ks) : ch = (ks.countP (posC f) : Nat) := by
  obtain ⟨ks0, h1, h2⟩ := h.cnt
  rw [h2, (keys_perm h1 hk).countP_eq]
theorem posC_mem {f : CF} {ks : List (Int × Int)} (hk : Keys f (fun _ => false) ks) {c : Int × Int} (hc : W64 c) (h : posC f c = true) : c ∈ ks := by
  refine (hk.mem c hc).2 ⟨?_, rfl⟩
  cases hf : f c
  · simp [posC, getC, hf] at h
  · rfl
/-- how many others have changed -/
def othersC (f : CF) (c : Int × Int) (ch : Int) : Int := if 0 < (getC f c).1 then ch - 1 else ch
theorem col_len {M L ch : Int} {f : CF} (h : ClkInv M f L ch) {ks : List (Int × Int)} (hk : Keys f (fun _ => false) ks) {c : Int × Int} (hc : W64 c) : ((colL f c ks).length : Int) = othersC f c ch := by
  have h1 := h.count hk
  have h2 := count_off c (posC f) (fun d => !decide (d = c) && posC f d) (fun d hd => by simp [hd]) ks hk.nodup
  have h3 : (colL f c ks).length = ks.countP (fun d => !decide (d = c) && posC f d) := by
    unfold colL posC
    rw [List.length_map, List.countP_eq_length_filter]
    simp only [cellEq_ne]
  rw [h3, h1]
  unfold othersC
  simp only [decide_true, Bool.not_true, Bool.false_and, Bool.false_eq_true, and_false, if_false, Nat.add_zero] at h2
  by_cases hp : 0 < (getC f c).1
  · have hm : posC f c = true := by simp [posC, hp]
    have := posC_mem hk hc hm
    rw [if_pos hp]
    simp only [this, hm, and_self, if_true] at h2
    omega
  · have hm : posC f c = false := by simp [posC, hp]
    rw [if_neg hp]
    simp only [hm, Bool.false_eq_true, and_false, if_false] at h2
    omega
theorem col_nodup {M L ch : Int} {f : CF} (h : ClkInv M f L ch) {ks : List (Int × Int)} (hk : ks.Nodup) (c : Int × Int) : (colL f c ks).Nodup := by
  unfold colL
  have : ∀ l : List (Int × Int), l.Nodup → (∀ d ∈ l, 0 < (getC f d).1) → (l.map fun d => (getC f d).1).Nodup := fun l => by
    induction l with
    | nil => intro _ _; simp
    | cons d l ih =>
      intro h1 h2
      obtain ⟨h3, h4⟩ := List.nodup_cons.1 h1
      rw [List.map_cons, List.nodup_cons]
      refine ⟨fun hm => ?_, ih h4 (fun x hx => h2 x (by simp [hx]))⟩
      obtain ⟨e, he, hee⟩ := List.mem_map.1 hm
      exact h3 (h.inj d e (h2 d (by simp)) hee.symm ▸ he)
  exact this _ (hk.filter _) (fun d hd => by
    have := (List.mem_filter.1 hd).2
    simp only [Bool.and_eq_true, decide_eq_true_eq] at this
    exact this.2)
theorem col_mem {f : CF} {ks : List (Int × Int)} (hk : Keys f (fun _ => false) ks) {c d : Int × Int} (hd : W64 d) (hne : d ≠ c) (hp : 0 < (getC f d).1) : (getC f d).1 ∈ colL f c ks := by
  unfold colL
  refine List.mem_map.2 ⟨d, List.mem_filter.2 ⟨posC_mem hk hd (by simp [posC, hp]), ?_⟩, rfl⟩
  rw [cellEq_ne]; simp [hne, hp]
theorem col_pos {f : CF} {ks : List (Int × Int)} {c : Int × Int} {x : Int} (h : x ∈ colL f c ks) : 0 < x := by
  unfold colL at h
  obtain ⟨d, hd, rfl⟩ := List.mem_map.1 h
  have := (List.mem_filter.1 hd).2
  simp only [Bool.and_eq_true, decide_eq_true_eq] at this
  exact this.2
/-- ranks among some numbers go up with the numbers -/
theorem rk_mono (zs : List Int) {x y : Int} (h : x ≤ y) : rkL zs x ≤ rkL zs y := by
  unfold rkL
  refine List.countP_mono_left fun a _ ha => ?_
  simp only [decide_eq_true_eq] at ha ⊢
  omega
theorem rk_lt : ∀ (zs : List Int) {x y : Int}, x < y → y ∈ zs → rkL zs x < rkL zs y
  | [], _, _, _, h => by simp at h
  | z :: zs, x, y, h, hm => by
    unfold rkL
    rw [List.countP_cons, List.countP_cons]
    rcases List.mem_cons.1 hm with rfl | hm
    · have := rk_mono zs (Int.le_of_lt h)
      unfold rkL at this
      have h1 : ¬ y ≤ x := by omega
      simp [h1]; omega
    · have := rk_lt zs h hm
      unfold rkL at this
      by_cases h1 : z ≤ x
      · have : z ≤ y := by omega
        simp [h1, this]; omega
      · simp [h1]; split <;> omega
theorem rk_le (zs : List Int) (x : Int) : rkL zs x ≤ zs.length := List.countP_le_length
theorem rk_perm {zs zs' : List Int} (h : zs.Perm zs') (x : Int) : rkL zs x = rkL zs' x := h.countP_eq _
theorem rk_zero {zs : List Int} (h : ∀ x ∈ zs, 0 < x) : rkL zs 0 = 0 := by
  unfold rkL
  rw [List.countP_eq_zero]
  intro a ha
  have := h a ha
  simp; omega
/-- ranks keep the order to a number among them -/
theorem rk_iff (zs : List Int) {x y : Int} (hy : y ∈ zs) : rkL zs x < rkL zs y ↔ x < y := by
  constructor
  · intro h
    rcases Int.lt_or_le x y with h1 | h1
    · exact h1
    · have := rk_mono zs h1; omega
  · intro h; exact rk_lt zs h hy
theorem rk_inj (zs : List Int) {x y : Int} (hx : x ∈ zs) (hy : y ∈ zs) (h : rkL zs x = rkL zs y) : x = y := by
  rcases Int.lt_trichotomy x y with h1 | h1 | h1
  · have := rk_lt zs h1 hy; omega
  · exact h1
  · have := rk_lt zs h1 hx; omega
/-- what Change does -/
inductive ChStep (M : Int) (f : CF) (L T ch : Int) (c : Int × Int) : Int → CF → Int → Int → Int → Prop
  | full (h : M - 1 ≤ othersC f c ch) : ChStep M f L T ch c 50 f L T ch
  | next (h : ¬ M - 1 ≤ othersC f c ch) (h2 : L + 1 ≠ M) : ChStep M f L T ch c 0 (updC f c (some (L + 1, (getC f c).2))) (L + 1) T (othersC f c ch + 1)
  | anew (h : ¬ M - 1 ≤ othersC f c ch) (h2 : L + 1 = M) (zs : List Int) (ks : List (Int × Int)) (hk : Keys f (fun _ => false) ks) (hz : zs.Perm (colL f c ks)) :
      ChStep M f L T ch c 0 (updC (newF zs f) c (some (zs.length + 1, (getC (newF zs f) c).2))) (zs.length + 1) (T + 1) (othersC f c ch + 1)
theorem keys_put {f : CF} {ks : List (Int × Int)} (hk : Keys f (fun _ => false) ks) {c : Int × Int} (hc : W64 c) (s : Int × Int) : Keys (updC f c (some s)) (fun _ => false) (if c ∈ ks then ks else c :: ks) := by
  by_cases h : c ∈ ks
  · rw [if_pos h]
    refine ⟨hk.nodup, hk.wf, fun d hd => ?_⟩
    by_cases e : d = c
    · subst e; simp [h, updC]
    · rw [hk.mem d hd]; simp [updC, e]
  · rw [if_neg h]
    refine ⟨List.nodup_cons.2 ⟨h, hk.nodup⟩, fun d hd => ?_, fun d hd => ?_⟩
    · rcases List.mem_cons.1 hd with rfl | hd
      · exact hc
      · exact hk.wf d hd
    · rw [List.mem_cons, hk.mem d hd]
      by_cases e : d = c
      · subst e; simp [updC]
      · simp [updC, e]
theorem count_put {f : CF} {ks : List (Int × Int)} (hk : Keys f (fun _ => false) ks) {c : Int × Int} (hc : W64 c) (s : Int × Int) (hs : 0 < s.1) : ((if c ∈ ks then ks else c :: ks).countP (posC (updC f c (some s))) : Int) = othersC f c (ks.countP (posC f) : Nat) + 1 := by
  have hp : posC (updC f c (some s)) c = true := by simp [posC, getC_upd_same, hs]
  have ho := count_off c (posC f) (posC (updC f c (some s))) (fun d hd => by simp [posC, getC_upd_other _ _ _ _ hd]) ks hk.nodup
  unfold othersC
  by_cases h : c ∈ ks
  · rw [if_pos h]
    by_cases h0 : 0 < (getC f c).1
    · have : posC f c = true := by simp [posC, h0]
      rw [if_pos h0]; simp [h, hp, this] at ho; omega
    · have : posC f c = false := by simp [posC, h0]
      rw [if_neg h0]; simp [h, hp, this] at ho; omega
  · rw [if_neg h, List.countP_cons]
    have h0 : ¬ 0 < (getC f c).1 := fun h0 => h (posC_mem hk hc (by simp [posC, h0]))
    rw [if_neg h0]; simp [h, hp] at ho ⊢; omega
theorem inv_put {M L ch : Int} {f : CF} (h : ClkInv M f L ch) {c : Int × Int} (hc : mayB c.1 c.2 = true) {L' y : Int} (hL : L < L') (hM : L' < M) (hy : 0 ≤ y ∧ y ≤ L') : ClkInv M (updC f c (some (L', y))) L' (othersC f c ch + 1) := by
  have hl := h.last
  refine ⟨by omega, fun d => ?_, fun d e => ?_, fun d hd => ?_, ?_⟩
  · by_cases e : d = c
    · subst e; rw [getC_upd_same]; simp; omega
    · rw [getC_upd_other _ _ _ _ e]; have := h.st d; omega
  · by_cases e1 : d = c <;> by_cases e2 : e = c
    · intro _ _; rw [e1, e2]
    · subst e1; rw [getC_upd_same, getC_upd_other _ _ _ _ e2]; intro _ h2; have := h.st e; simp only at h2; omega
    · subst e2; rw [getC_upd_same, getC_upd_other _ _ _ _ e1]; intro _ h2; have := h.st d; simp only at h2; omega
    · rw [getC_upd_other _ _ _ _ e1, getC_upd_other _ _ _ _ e2]; exact h.inj d e
  · by_cases e : d = c
    · rw [e]; exact hc
    · simp [updC, e] at hd; exact h.dom d hd
  · obtain ⟨ks, h1, h2⟩ := h.cnt
    exact ⟨_, keys_put h1 (mayB_w64 hc) _, by rw [count_put h1 (mayB_w64 hc) _ (by simp; omega), h2]⟩
theorem getC_new (zs : List Int) (f : CF) (hz : ∀ x ∈ zs, 0 < x) (c : Int × Int) : getC (newF zs f) c = newS zs (getC f c) := by
  unfold getC newF
  cases f c
  · simp [newS, rk_zero hz]
  · rfl
theorem keys_new {f : CF} {ks : List (Int × Int)} (hk : Keys f (fun _ => false) ks) (zs : List Int) : Keys (newF zs f) (fun _ => false) ks := ⟨hk.nodup, hk.wf, fun c hc => by rw [hk.mem c hc]; simp [newF]⟩
theorem keys_del {f : CF} {ks : List (Int × Int)} (hk : Keys f (fun _ => false) ks) (c : Int × Int) : Keys (updC f c none) (fun _ => false) (ks.filter fun d => !decide (d = c)) := by
  refine ⟨hk.nodup.filter _, fun d hd => hk.wf d (List.mem_filter.1 hd).1, fun d hd => ?_⟩
  rw [List.mem_filter, hk.mem d hd]
  by_cases e : d = c
  · subst e; simp [updC]
  · simp [updC, e]
/-- behind the numbering anew, but for the cell that changes -/
theorem new_other {M L ch : Int} {f : CF} (h : ClkInv M f L ch) {c : Int × Int} {zs : List Int} {ks : List (Int × Int)} (hk : Keys f (fun _ => false) ks) (hz : zs.Perm (colL f c ks)) {d : Int × Int} (hd : d ≠ c) :
    (0 < (getC f d).1 → (getC f d).1 ∈ zs) ∧ (getC (newF zs f) d).1 = (rkL zs (getC f d).1 : Nat) := by
  have hz0 : ∀ x ∈ zs, 0 < x := fun x hx => col_pos (hz.mem_iff.1 hx)
  have h1 : 0 < (getC f d).1 → (getC f d).1 ∈ zs := fun h0 => hz.mem_iff.2 (col_mem hk (mayB_w64 (h.dom d (by
    cases hf : f d
    · simp [getC, hf] at h0
    · rfl))) hd h0)
  refine ⟨h1, ?_⟩
  rw [getC_new zs f hz0]
  unfold newS
  by_cases h0 : 0 < (getC f d).1
  · simp [h0]
  · have e : (getC f d).1 = 0 := by have := h.st d; omega
    simp [e, rk_zero hz0]
theorem inv_step {M L T ch : Int} {f : CF} (h : ClkInv M f L ch) {c : Int × Int} (hc : mayB c.1 c.2 = true) {x : Int} {f' : CF} {L' T' ch' : Int} (s : ChStep M f L T ch c x f' L' T' ch') : ClkInv M f' L' ch' ∧ T ≤ T' ∧ T' ≤ T + 1 := by
  have hl := h.last
  cases s with
  | full h1 => exact ⟨h, by omega, by omega⟩
  | next h1 h2 => exact ⟨inv_put h hc (by omega) (by omega) (by have := h.st c; omega), by omega, by omega⟩
  | anew h1 h2 zs ks hk hz =>
    refine ⟨?_, by omega, by omega⟩
    have hz0 : ∀ x ∈ zs, 0 < x := fun x hx => col_pos (hz.mem_iff.1 hx)
    have hlen := col_len h hk (mayB_w64 hc)
    rw [← hz.length_eq] at hlen
    have hs2 : ∀ d, 0 ≤ (getC (newF zs f) d).2 ∧ (getC (newF zs f) d).2 ≤ zs.length := fun d => by
      rw [getC_new zs f hz0]; unfold newS; have := rk_le zs (getC f d).2; simp only; omega
    refine ⟨by omega, fun d => ?_, fun d e => ?_, fun d hd => ?_, ?_⟩
    · by_cases e : d = c
      · subst e; rw [getC_upd_same]; have := hs2 d; simp only; omega
      · rw [getC_upd_other _ _ _ _ e, (new_other h hk hz e).2]
        have := hs2 d; have := rk_le zs (getC f d).1; omega
    · by_cases e1 : d = c <;> by_cases e2 : e = c
      · intro _ _; rw [e1, e2]
      · subst e1; rw [getC_upd_same, getC_upd_other _ _ _ _ e2, (new_other h hk hz e2).2]; have := rk_le zs (getC f e).1; simp only; omega
      · subst e2; rw [getC_upd_same, getC_upd_other _ _ _ _ e1, (new_other h hk hz e1).2]; have := rk_le zs (getC f d).1; simp only; omega
      · rw [getC_upd_other _ _ _ _ e1, getC_upd_other _ _ _ _ e2]
        obtain ⟨a1, a2⟩ := new_other h hk hz e1
        obtain ⟨b1, b2⟩ := new_other h hk hz e2
        rw [a2, b2]
        intro h0 he
        have p1 : 0 < (getC f d).1 := by
          rcases Int.lt_or_le 0 (getC f d).1 with h9 | h9
          · exact h9
          · have : (getC f d).1 = 0 := by have := h.st d; omega
            rw [this, rk_zero hz0] at h0; simp at h0
        have p2 : 0 < (getC f e).1 := by
          rcases Int.lt_or_le 0 (getC f e).1 with h9 | h9
          · exact h9
          · have : (getC f e).1 = 0 := by have := h.st e; omega
            rw [this, rk_zero hz0] at he; omega
        exact h.inj d e p1 (rk_inj zs (a1 p1) (b1 p2) (by omega))
    · by_cases e : d = c
      · rw [e]; exact hc
      · simp [updC, e, newF] at hd; exact h.dom d hd
    · refine ⟨_, keys_put (keys_new hk zs) (mayB_w64 hc) _, ?_⟩
      have hcn := count_off c (posC f) (posC (newF zs f)) (fun d hd => by
        obtain ⟨a1, a2⟩ := new_other h hk hz hd
        unfold posC
        rw [a2]
        by_cases h0 : 0 < (getC f d).1
        · have h5 := rk_lt zs h0 (a1 h0)
          have : 0 < rkL zs (getC f d).1 := by omega
          simp [h0, this]
        · have : (getC f d).1 = 0 := by have := h.st d; omega
          simp [this, rk_zero hz0]) ks hk.nodup
      rw [count_put (keys_new hk zs) (mayB_w64 hc) _ (by show (0:Int) < (zs.length : Int) + 1; omega)]
      have h9 := h.count hk
      unfold othersC
      by_cases h0 : 0 < (getC f c).1 <;> by_cases h1 : 0 < (getC (newF zs f) c).1
      · have i1 : posC f c = true := by simp [posC, h0]
        have i2 : posC (newF zs f) c = true := by simp [posC, h1]
        rw [if_pos h0, if_pos h1]; simp only [i1, i2, and_true] at hcn; omega
      · have i1 : posC f c = true := by simp [posC, h0]
        have i2 : posC (newF zs f) c = false := by simp [posC, h1]
        have := posC_mem hk (mayB_w64 hc) i1
        rw [if_pos h0, if_neg h1]; simp only [i1, i2, this, Bool.false_eq_true, and_false, and_self, if_true, if_false] at hcn; omega
      · have i1 : posC f c = false := by simp [posC, h0]
        have i2 : posC (newF zs f) c = true := by simp [posC, h1]
        have := posC_mem (keys_new hk zs) (mayB_w64 hc) i2
        rw [if_neg h0, if_pos h1]; simp only [i1, i2, this, Bool.false_eq_true, and_false, and_self, if_true, if_false] at hcn; omega
      · have i1 : posC f c = false := by simp [posC, h0]
        have i2 : posC (newF zs f) c = false := by simp [posC, h1]
        rw [if_neg h0, if_neg h1]; simp only [i1, i2, Bool.false_eq_true, and_false, if_false] at hcn; omega
theorem inv_see {M L ch : Int} {f : CF} (h : ClkInv M f L ch) {c : Int × Int} (hc : mayB c.1 c.2 = true) : ClkInv M (updC f c (some ((getC f c).1, L))) L ch := by
  have hl := h.last
  have he : ∀ d, (getC (updC f c (some ((getC f c).1, L))) d).1 = (getC f d).1 := fun d => by
    by_cases e : d = c
    · subst e; rw [getC_upd_same]
    · rw [getC_upd_other _ _ _ _ e]
  refine ⟨hl, fun d => ?_, fun d e => ?_, fun d hd => ?_, ?_⟩
  · rw [he]
    by_cases e : d = c
    · subst e; rw [getC_upd_same]; have := h.st d; simp only; omega
    · rw [getC_upd_other _ _ _ _ e]; exact h.st d
  · rw [he, he]; exact h.inj d e
  · by_cases e : d = c
    · rw [e]; exact hc
    · simp [updC, e] at hd; exact h.dom d hd
  · obtain ⟨ks, h1, h2⟩ := h.cnt
    refine ⟨_, keys_put h1 (mayB_w64 hc) _, ?_⟩
    rw [h2]
    have hp : posC (updC f c (some ((getC f c).1, L))) = posC f := funext fun d => by simp [posC, he]
    rw [hp]
    by_cases hm : c ∈ ks
    · rw [if_pos hm]
    · rw [if_neg hm, List.countP_cons]
      have : posC f c = false := by
        cases hx : posC f c
        · rfl
        · exact absurd (posC_mem h1 (mayB_w64 hc) hx) hm
      simp [this]
theorem inv_drop {M L ch : Int} {f : CF} (h : ClkInv M f L ch) {c : Int × Int} (hc : W64 c) : ClkInv M (updC f c none) L (othersC f c ch) := by
  refine ⟨h.last, fun d => ?_, fun d e => ?_, fun d hd => ?_, ?_⟩
  · by_cases e : d = c
    · subst e; rw [getC_del_same]; have := h.last; simp; omega
    · rw [getC_upd_other _ _ _ _ e]; exact h.st d
  · by_cases e1 : d = c
    · subst e1; rw [getC_del_same]; intro h0; simp at h0
    · by_cases e2 : e = c
      · subst e2; rw [getC_del_same, getC_upd_other _ _ _ _ e1]; simp only; intro h0 h1; omega
      · rw [getC_upd_other _ _ _ _ e1, getC_upd_other _ _ _ _ e2]; exact h.inj d e
  · by_cases e : d = c
    · subst e; simp [updC] at hd
    · simp [updC, e] at hd; exact h.dom d hd
  · obtain ⟨ks, h1, h2⟩ := h.cnt
    refine ⟨_, keys_del h1 c, ?_⟩
    have h3 := count_off c (posC f) (fun d => !decide (d = c) && posC f d) (fun d hd => by simp [hd]) ks h1.nodup
    have h4 : (ks.filter fun d => !decide (d = c)).countP (posC (updC f c none)) = ks.countP (fun d => !decide (d = c) && posC f d) := by
      rw [List.countP_filter]
      refine List.countP_congr fun d _ => ?_
      by_cases e : d = c
      · simp [e]
      · simp [e, posC, getC_upd_other _ _ _ _ e]
    rw [h4]
    simp only [decide_true, Bool.not_true, Bool.false_and, Bool.false_eq_true, and_false, if_false, Nat.add_zero] at h3
    unfold othersC
    by_cases h0 : 0 < (getC f c).1
    · have i1 : posC f c = true := by simp [posC, h0]
      have := posC_mem h1 hc i1
      rw [if_pos h0]; simp only [i1, this, and_self, if_true] at h3; omega
    · have i1 : posC f c = false := by simp [posC, h0]
      rw [if_neg h0]; simp only [i1, Bool.false_eq_true, and_false, if_false] at h3; omega
/-- what the law of Newer keeps: cells, and the steps at which they changed and were seen last -/
abbrev WhenL := List ((Int × Int) × Int × Int)
structure NInv (f : CF) (i : Int) (l : WhenL) : Prop where
  cells : ∀ e ∈ l, e = ((0, 0), 0, 0) ∨ mayB e.1.1 e.1.2 = true
  once : ∀ (a b : Nat) (ha : a < l.length) (hb : b < l.length), l[a].1 = l[b].1 → mayB l[a].1.1 l[a].1.2 = true → a = b
  out : ∀ c, (∀ e ∈ l, e.1 ≠ c) → getC f c = (0, 0)
  bound : ∀ e ∈ l, 0 ≤ e.2.1 ∧ e.2.1 ≤ i ∧ 0 ≤ e.2.2 ∧ e.2.2 ≤ i
  pos : ∀ e ∈ l, (0 < (getC f e.1).1 ↔ 0 < e.2.1)
  ord : ∀ a ∈ l, ∀ b ∈ l, ((getC f b.1).2 < (getC f a.1).1 ↔ b.2.2 < a.2.1)
theorem NInv.start (f : CF) (hf : f = fun _ => none) (i : Int) : NInv f i [] :=
  ⟨by simp, fun a b ha => by simp at ha, fun c _ => by rw [hf]; rfl, by simp, by simp, by simp⟩
/-- how many others have changed is at most how many are kept -/
theorem others_le {M L ch i : Int} {f : CF} {l : WhenL} (h : ClkInv M f L ch) (hn : NInv f i l) (c : Int × Int) : othersC f c ch ≤ l.length := by
  obtain ⟨ks, h1, h2⟩ := h.cnt
  have h3 : (ks.filter (posC f)).length ≤ (l.map (·.1)).length := nodup_sub_len _ _ (h1.nodup.filter _) fun d hd => by
    have hp := (List.mem_filter.1 hd).2
    by_cases hm : d ∈ l.map (·.1)
    · exact hm
    · have := hn.out d (fun e he hed => hm (List.mem_map.2 ⟨e, he, hed⟩))
      simp [posC, this] at hp
  rw [List.length_map, ← List.countP_eq_length_filter] at h3
  unfold othersC
  split <;> omega
/-- the place of a cell among some, their number if it is not there -/
def atL (l : WhenL) (c : Int × Int) : Nat := l.findIdx fun e => cellEq e.1.1 e.1.2 c.1 c.2
theorem atL_lt {l : WhenL} {c : Int × Int} (h : atL l c < l.length) : (l[atL l c]'h).1 = c := by
  have := List.findIdx_getElem (w := h)
  rw [cellEq_ne] at this
  exact of_decide_eq_true this
theorem atL_none {l : WhenL} {c : Int × Int} (h : ¬ atL l c < l.length) : ∀ e ∈ l, e.1 ≠ c := by
  intro e he hec
  refine h (List.findIdx_lt_length_of_exists ⟨e, he, ?_⟩)
  rw [cellEq_ne]; simp [hec]
theorem atL_le (l : WhenL) (c : Int × Int) : atL l c ≤ l.length := List.findIdx_le_length
/-- a new entry -/
theorem NInv.add {f : CF} {i : Int} {l : WhenL} (h : NInv f i l) (hst : ∀ c, 0 ≤ (getC f c).1 ∧ 0 ≤ (getC f c).2) (hi : 0 ≤ i) {c : Int × Int} (hc : mayB c.1 c.2 = true) (hno : ∀ e ∈ l, e.1 ≠ c) : NInv f i (l ++ [(c, 0, 0)]) := by
  have h0 : getC f c = (0, 0) := h.out c hno
  refine ⟨fun e he => ?_, fun a b ha hb => ?_, fun d hd => h.out d fun e he => hd e (List.mem_append_left _ he), fun e he => ?_, fun e he => ?_, fun a ha b hb => ?_⟩
  · rcases List.mem_append.1 he with he | he
    · exact h.cells e he
    · simp at he; subst he; exact .inr hc
  · intro he hm
    rw [List.length_append, List.length_singleton] at ha hb
    by_cases h1 : a < l.length <;> by_cases h2 : b < l.length
    · rw [List.getElem_append_left h1, List.getElem_append_left h2] at he
      rw [List.getElem_append_left h1] at hm
      exact h.once a b h1 h2 he hm
    · have : b = l.length := by omega
      subst this
      rw [List.getElem_append_left h1, List.getElem_append_right (Nat.le_refl _)] at he
      simp at he
      exact absurd he (hno _ (List.getElem_mem h1))
    · have : a = l.length := by omega
      subst this
      rw [List.getElem_append_left h2, List.getElem_append_right (Nat.le_refl _)] at he
      simp at he
      exact absurd he.symm (hno _ (List.getElem_mem h2))
    · omega
  · rcases List.mem_append.1 he with he | he
    · exact h.bound e he
    · simp at he; subst he; simp; omega
  · rcases List.mem_append.1 he with he | he
    · exact h.pos e he
    · simp at he; subst he; simp [h0]
  · rcases List.mem_append.1 ha with ha | ha <;> rcases List.mem_append.1 hb with hb | hb
    · exact h.ord a ha b hb
    · simp at hb; subst hb; simp only [h0]; exact h.pos a ha
    · simp at ha; subst ha
      have h1 := (h.bound b hb).2.2.1
      have h2 := (hst b.1).2
      simp only [h0]
      omega
    · simp at ha hb; subst ha; subst hb; simp [h0]

/-- what a Change does to the order -/
structure ChFacts (f f' : CF) (c : Int × Int) : Prop where
  pos : ∀ d, d ≠ c → (0 < (getC f' d).1 ↔ 0 < (getC f d).1)
  ord : ∀ d e, d ≠ c → ((getC f' e).2 < (getC f' d).1 ↔ (getC f e).2 < (getC f d).1)
  top : ∀ e, (getC f' e).2 < (getC f' c).1
  out : ∀ d, d ≠ c → getC f d = (0, 0) → getC f' d = (0, 0)
theorem chFacts {M L T ch : Int} {f : CF} (h : ClkInv M f L ch) {c : Int × Int} (hc : mayB c.1 c.2 = true) {f' : CF} {L' T' ch' : Int} (s : ChStep M f L T ch c 0 f' L' T' ch') : ChFacts f f' c := by
  have hl := h.last
  cases s with
  | next h1 h2 =>
    have h2e : ∀ e, (getC (updC f c (some (L + 1, (getC f c).2))) e).2 = (getC f e).2 := fun e => by
      by_cases he : e = c
      · subst he; rw [getC_upd_same]
      · rw [getC_upd_other _ _ _ _ he]
    refine ⟨fun d hd => by rw [getC_upd_other _ _ _ _ hd], fun d e hd => by rw [getC_upd_other _ _ _ _ hd, h2e], fun e => ?_, fun d hd h0 => by rw [getC_upd_other _ _ _ _ hd, h0]⟩
    rw [h2e, getC_upd_same]; have := h.st e; simp only; omega
  | anew h1 h2 zs ks hk hz =>
    have hz0 : ∀ x ∈ zs, 0 < x := fun x hx => col_pos (hz.mem_iff.1 hx)
    have h2e : ∀ e, (getC (updC (newF zs f) c (some (zs.length + 1, (getC (newF zs f) c).2))) e).2 = (rkL zs (getC f e).2 : Nat) := fun e => by
      by_cases he : e = c
      · subst he; rw [getC_upd_same, getC_new zs f hz0]; rfl
      · rw [getC_upd_other _ _ _ _ he, getC_new zs f hz0]; rfl
    have hp : ∀ d, d ≠ c → (0 < (getC f d).1 ↔ 0 < rkL zs (getC f d).1) := fun d hd => by
      obtain ⟨a1, a2⟩ := new_other h hk hz hd
      constructor
      · intro h0; have := rk_lt zs h0 (a1 h0); omega
      · intro h0
        rcases Int.lt_or_le 0 (getC f d).1 with h9 | h9
        · exact h9
        · have : (getC f d).1 = 0 := by have := h.st d; omega
          rw [this, rk_zero hz0] at h0; omega
    refine ⟨fun d hd => ?_, fun d e hd => ?_, fun e => ?_, fun d hd h0 => ?_⟩
    · rw [getC_upd_other _ _ _ _ hd, (new_other h hk hz hd).2, hp d hd]; omega
    · rw [h2e, getC_upd_other _ _ _ _ hd, (new_other h hk hz hd).2]
      by_cases h0 : 0 < (getC f d).1
      · rw [← rk_iff zs ((new_other h hk hz hd).1 h0)]; omega
      · have h5 := h.st e
        have h6 : (getC f d).1 = 0 := by have := h.st d; omega
        rw [h6, rk_zero hz0]; omega
    · rw [h2e, getC_upd_same]; have := rk_le zs (getC f e).2; simp only; omega
    · rw [getC_upd_other _ _ _ _ hd, getC_new zs f hz0, h0]; simp [newS, rk_zero hz0]
theorem NInv.mem_set {f : CF} {i : Int} {l : WhenL} (h : NInv f i l) {p : Nat} (hp : p < l.length) (hm : mayB l[p].1.1 l[p].1.2 = true) {v e : (Int × Int) × Int × Int} (he : e ∈ l.set p v) : e = v ∨ (e ∈ l ∧ e.1 ≠ l[p].1) := by
  obtain ⟨j, hj, rfl⟩ := List.getElem_of_mem he
  rw [List.length_set] at hj
  rw [List.getElem_set]
  by_cases hjp : p = j
  · rw [if_pos hjp]; exact .inl rfl
  · rw [if_neg hjp]
    exact .inr ⟨List.getElem_mem hj, fun hx => hjp (h.once p j hp hj hx.symm hm)⟩
theorem NInv.once_set {f : CF} {i : Int} {l : WhenL} (h : NInv f i l) {p : Nat} (hp : p < l.length) {v : (Int × Int) × Int × Int} (hv : v.1 = l[p].1 ∨ mayB v.1.1 v.1.2 = false) :
    ∀ (a b : Nat) (ha : a < (l.set p v).length) (hb : b < (l.set p v).length), (l.set p v)[a].1 = (l.set p v)[b].1 → mayB (l.set p v)[a].1.1 (l.set p v)[a].1.2 = true → a = b := by
  intro a b ha hb
  rw [List.length_set] at ha hb
  rw [List.getElem_set, List.getElem_set]
  by_cases h1 : p = a <;> by_cases h2 : p = b
  · intro _ _; omega
  · rw [if_pos h1, if_neg h2]
    intro he hm
    rcases hv with hv | hv
    · rw [hv] at he hm; exact (h.once p b hp hb he hm) ▸ h1.symm
    · rw [hv] at hm; cases hm
  · rw [if_neg h1, if_pos h2]
    intro he hm
    rcases hv with hv | hv
    · rw [hv] at he; exact (h.once a p ha hp he hm).trans h2
    · rw [he, hv] at hm; cases hm
  · rw [if_neg h1, if_neg h2]; exact h.once a b ha hb
theorem NInv.change {f f' : CF} {i : Int} {l : WhenL} (h : NInv f i l) (hi : 0 ≤ i) {p : Nat} (hp : p < l.length) (hm : mayB l[p].1.1 l[p].1.2 = true) (hf : ChFacts f f' l[p].1) (hst : ∀ c, 0 ≤ (getC f' c).1 ∧ 0 ≤ (getC f' c).2) :
    NInv f' (i + 1) (l.set p (l[p].1, i + 1, l[p].2.2)) := by
  have hb := h.bound l[p] (List.getElem_mem hp)
  refine ⟨fun e he => ?_, h.once_set hp (.inl rfl), fun d hd => ?_, fun e he => ?_, fun e he => ?_, fun a ha b hb => ?_⟩
  · rcases h.mem_set hp hm he with rfl | ⟨he, _⟩
    · exact .inr hm
    · exact h.cells e he
  · have hne : d ≠ l[p].1 := fun e => hd _ (List.mem_set hp _) e.symm
    refine hf.out d hne (h.out d fun e he hed => ?_)
    obtain ⟨j, hj, rfl⟩ := List.getElem_of_mem he
    have hpj : p ≠ j := fun x => hne (by subst x; exact hed.symm)
    exact hd l[j] (List.mem_iff_getElem.2 ⟨j, by simpa using hj, by rw [List.getElem_set, if_neg hpj]⟩) hed
  · rcases h.mem_set hp hm he with rfl | ⟨he, _⟩
    · simp only; omega
    · have := h.bound e he; omega
  · rcases h.mem_set hp hm he with rfl | ⟨he, hne⟩
    · have := hf.top l[p].1; have := hst l[p].1; simp only; omega
    · rw [hf.pos _ hne]; exact h.pos e he
  · rcases h.mem_set hp hm ha with rfl | ⟨ha, hna⟩
    · have h1 := hf.top b.1
      have h2 : b.2.2 ≤ i := by
        rcases h.mem_set hp hm hb with rfl | ⟨hb', _⟩
        · simp only; omega
        · have := h.bound b hb'; omega
      simp only; omega
    · rw [hf.ord _ _ hna]
      rcases h.mem_set hp hm hb with rfl | ⟨hb, hnb⟩
      · exact h.ord a ha l[p] (List.getElem_mem hp)
      · exact h.ord a ha b hb
theorem NInv.see {M L ch : Int} {f : CF} {i : Int} {l : WhenL} (hk : ClkInv M f L ch) (h : NInv f i l) (hi : 0 ≤ i) {p : Nat} (hp : p < l.length) (hm : mayB l[p].1.1 l[p].1.2 = true) :
    NInv (updC f l[p].1 (some ((getC f l[p].1).1, L))) (i + 1) (l.set p (l[p].1, l[p].2.1, i + 1)) := by
  have hb := h.bound l[p] (List.getElem_mem hp)
  have he1 : ∀ d, (getC (updC f l[p].1 (some ((getC f l[p].1).1, L))) d).1 = (getC f d).1 := fun d => by
    by_cases e : d = l[p].1
    · rw [e, getC_upd_same]
    · rw [getC_upd_other _ _ _ _ e]
  refine ⟨fun e he => ?_, h.once_set hp (.inl rfl), fun d hd => ?_, fun e he => ?_, fun e he => ?_, fun a ha b hb => ?_⟩
  · rcases h.mem_set hp hm he with rfl | ⟨he, _⟩
    · exact .inr hm
    · exact h.cells e he
  · have hne : d ≠ l[p].1 := fun e => hd _ (List.mem_set hp _) e.symm
    rw [getC_upd_other _ _ _ _ hne]
    refine h.out d fun e he hed => ?_
    obtain ⟨j, hj, rfl⟩ := List.getElem_of_mem he
    have hpj : p ≠ j := fun x => hne (by subst x; exact hed.symm)
    exact hd l[j] (List.mem_iff_getElem.2 ⟨j, by simpa using hj, by rw [List.getElem_set, if_neg hpj]⟩) hed
  · rcases h.mem_set hp hm he with rfl | ⟨he, _⟩
    · simp only; omega
    · have := h.bound e he; omega
  · rw [he1]
    rcases h.mem_set hp hm he with rfl | ⟨he, hne⟩
    · exact h.pos l[p] (List.getElem_mem hp)
    · exact h.pos e he
  · rw [he1]
    have ha' : ∃ a' ∈ l, a'.1 = a.1 ∧ a'.2.1 = a.2.1 := by
      rcases h.mem_set hp hm ha with rfl | ⟨ha, _⟩
      · exact ⟨l[p], List.getElem_mem hp, rfl, rfl⟩
      · exact ⟨a, ha, rfl, rfl⟩
    obtain ⟨a', m, e1, e2⟩ := ha'
    rw [← e1, ← e2]
    rcases h.mem_set hp hm hb with rfl | ⟨hb, hnb⟩
    · rw [getC_upd_same]; have := hk.st a'.1; have := h.bound a' m; simp only; omega
    · rw [getC_upd_other _ _ _ _ hnb]; exact h.ord a' m b hb
theorem NInv.later {f : CF} {i : Int} {l : WhenL} (h : NInv f i l) : NInv f (i + 1) l :=
  ⟨h.cells, h.once, h.out, fun e he => by have := h.bound e he; omega, h.pos, h.ord⟩
theorem NInv.drop {f : CF} {i : Int} {l : WhenL} (h : NInv f i l) (hi : 0 ≤ i) (hst : ∀ c, 0 ≤ (getC f c).1 ∧ 0 ≤ (getC f c).2) (hdom : ∀ c, (f c).isSome = true → mayB c.1 c.2 = true) (c : Int × Int) :
    NInv (updC f c none) (i + 1) (if atL l c < l.length then l.set (atL l c) ((0, 0), 0, 0) else l) := by
  have hz : getC f (0, 0) = (0, 0) := by
    unfold getC
    cases hf : f (0, 0)
    · rfl
    · have := hdom (0, 0) (by rw [hf]; rfl); simp [mayB] at this
  have same : getC f c = (0, 0) → ∀ d, getC (updC f c none) d = getC f d := fun h0 d => by
    by_cases e : d = c
    · rw [e, getC_del_same, h0]
    · rw [getC_upd_other _ _ _ _ e]
  have keep : getC f c = (0, 0) → NInv (updC f c none) (i + 1) l := fun h0 => by
    have s := same h0
    have h := h.later
    exact ⟨h.cells, h.once, fun d hd => by rw [s]; exact h.out d hd, h.bound, fun e he => by rw [s]; exact h.pos e he, fun a ha b hb => by rw [s, s]; exact h.ord a ha b hb⟩
  by_cases hp : atL l c < l.length
  · rw [if_pos hp]
    have hc := atL_lt hp
    rcases h.cells _ (List.getElem_mem hp) with h0 | hm
    · have : l.set (atL l c) ((0, 0), 0, 0) = l := by
        refine List.ext_getElem (by simp) fun j h1 h2 => ?_
        rw [List.getElem_set]
        split
        · rename_i e; subst e; exact h0.symm
        · rfl
      rw [this]
      refine keep ?_
      rw [h0] at hc; rw [← hc]; exact hz
    · have hm0 : mayB ((0, 0) : Int × Int).1 ((0, 0) : Int × Int).2 = false := by simp [mayB]
      have hne : ((0, 0) : Int × Int) ≠ c := fun e => by have hx := hc.trans e.symm; rw [hx, hm0] at hm; cases hm
      have g0 : getC (updC f c none) (0, 0) = (0, 0) := by rw [getC_upd_other _ _ _ _ hne]; exact hz
      refine ⟨fun e he => ?_, h.once_set hp (.inr hm0), fun d hd => ?_, fun e he => ?_, fun e he => ?_, fun a ha b hb => ?_⟩
      · rcases h.mem_set hp hm he with rfl | ⟨he, _⟩
        · exact .inl rfl
        · exact h.cells e he
      · by_cases e : d = c
        · rw [e, getC_del_same]
        · rw [getC_upd_other _ _ _ _ e]
          refine h.out d fun x hx hxd => ?_
          obtain ⟨j, hj, rfl⟩ := List.getElem_of_mem hx
          have hpj : atL l c ≠ j := fun y => e (by subst y; rw [← hxd, hc])
          exact hd l[j] (List.mem_iff_getElem.2 ⟨j, by simpa using hj, by rw [List.getElem_set, if_neg hpj]⟩) hxd
      · rcases h.mem_set hp hm he with rfl | ⟨he, _⟩
        · simp only; omega
        · have := h.bound e he; omega
      · rcases h.mem_set hp hm he with rfl | ⟨he, hn⟩
        · simp only [g0]
        · rw [hc] at hn; rw [getC_upd_other _ _ _ _ hn]; exact h.pos e he
      · rcases h.mem_set hp hm ha with rfl | ⟨ha, hna⟩
        · rw [g0]
          have h1 : 0 ≤ b.2.2 := by
            rcases h.mem_set hp hm hb with rfl | ⟨hb, _⟩
            · simp
            · exact (h.bound b hb).2.2.1
          have h2 : 0 ≤ (getC (updC f c none) b.1).2 := by
            by_cases e : b.1 = c
            · rw [e, getC_del_same]; simp
            · rw [getC_upd_other _ _ _ _ e]; exact (hst b.1).2
          simp only; omega
        · rw [hc] at hna
          rw [getC_upd_other _ _ _ _ hna]
          rcases h.mem_set hp hm hb with rfl | ⟨hb, hnb⟩
          · rw [g0]; exact h.pos a ha
          · rw [hc] at hnb; rw [getC_upd_other _ _ _ _ hnb]; exact h.ord a ha b hb
  · rw [if_neg hp]
    exact keep (h.out c (atL_none hp))
end Go.Proofs.Ytkpoidlohgnbpaa
