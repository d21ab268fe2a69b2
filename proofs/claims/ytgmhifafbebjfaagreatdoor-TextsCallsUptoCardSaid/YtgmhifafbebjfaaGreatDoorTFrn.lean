/-
  texts: whatever may be given has a form.
-/
import Derived.Test.YtgmhifafbebjfaaGreatDoorTFrm
namespace Go.Proofs.YtgmhifafbebjfaaGreatDoor
open Go.RowKit

theorem hasL_mem9 (s : ByteArray) : ∀ l : List (ByteArray × Value), hasL l s = true → ∃ p ∈ l, s = p.1
  | [], h => by simp [hasL] at h
  | (k, x) :: l, h => by
    unfold hasL at h
    by_cases e : s = k
    · exact ⟨(k, x), by simp, e⟩
    · simp only [e, decide_false, Bool.false_or] at h
      obtain ⟨p, hp, he⟩ := hasL_mem9 s l h
      exact ⟨p, List.mem_cons_of_mem _ hp, he⟩
theorem tKnown_cases {s : ByteArray} (h : tKnown s = true) : s = ⟨#[67, 79, 78, 67, 65, 84]⟩ ∨ s = ⟨#[76, 69, 78]⟩ ∨ s = ⟨#[76, 69, 70, 84]⟩ ∨ s = ⟨#[82, 73, 71, 72, 84]⟩ ∨ s = ⟨#[77, 73, 68]⟩ ∨ s = ⟨#[85, 80, 80, 69, 82]⟩ ∨ s = ⟨#[76, 79, 87, 69, 82]⟩ ∨ s = ⟨#[84, 82, 73, 77]⟩ ∨ s = ⟨#[82, 69, 80, 84]⟩ ∨ s = ⟨#[70, 73, 78, 68]⟩ ∨ s = ⟨#[83, 85, 66, 83, 84]⟩ ∨ s = ⟨#[79, 82, 68]⟩ ∨ s = ⟨#[67, 72, 65, 82]⟩ ∨ s = ⟨#[69, 88, 65, 67, 84]⟩ ∨ s = ⟨#[82, 69, 86]⟩ ∨ s = ⟨#[78, 85, 77]⟩ := by
  obtain ⟨p, hp, rfl⟩ := hasL_mem9 s _ h
  unfold tTab at hp
  simp only [List.mem_cons, List.not_mem_nil, or_false] at hp
  rcases hp with rfl | rfl | rfl | rfl | rfl | rfl | rfl | rfl | rfl | rfl | rfl | rfl | rfl | rfl | rfl | rfl <;> simp
theorem gS_all : ∀ (k : Nat) (l : List AL), l.length ≤ k → gS ((List.replicate k (115 : UInt8)).zip l) = l.map (fun x => x.v.asT) ∧ gN ((List.replicate k (115 : UInt8)).zip l) = []
  | _, [], _ => by simp [gS, gN]
  | 0, x :: l, h => by simp at h
  | k + 1, x :: l, h => by
    obtain ⟨h1, h2⟩ := gS_all k l (by simpa using h)
    rw [List.replicate_succ, List.zip_cons_cons]
    unfold gS gN at *
    simp [h1, h2]
theorem fkd_CONCAT : tKd ⟨#[67, 79, 78, 67, 65, 84]⟩ = ⟨#[115, 115, 115, 115, 115, 115, 115, 115, 115, 115, 115, 115, 115, 115, 115, 115]⟩ := by kernel_rfl
theorem flo_CONCAT : tLo ⟨#[67, 79, 78, 67, 65, 84]⟩ = 1 := by kernel_rfl
theorem fkd_LEN : tKd ⟨#[76, 69, 78]⟩ = ⟨#[115]⟩ := by kernel_rfl
theorem flo_LEN : tLo ⟨#[76, 69, 78]⟩ = 1 := by kernel_rfl
theorem fkd_LEFT : tKd ⟨#[76, 69, 70, 84]⟩ = ⟨#[115, 110]⟩ := by kernel_rfl
theorem flo_LEFT : tLo ⟨#[76, 69, 70, 84]⟩ = 1 := by kernel_rfl
theorem fkd_RIGHT : tKd ⟨#[82, 73, 71, 72, 84]⟩ = ⟨#[115, 110]⟩ := by kernel_rfl
theorem flo_RIGHT : tLo ⟨#[82, 73, 71, 72, 84]⟩ = 1 := by kernel_rfl
theorem fkd_MID : tKd ⟨#[77, 73, 68]⟩ = ⟨#[115, 110, 110]⟩ := by kernel_rfl
theorem flo_MID : tLo ⟨#[77, 73, 68]⟩ = 3 := by kernel_rfl
theorem fkd_UPPER : tKd ⟨#[85, 80, 80, 69, 82]⟩ = ⟨#[115]⟩ := by kernel_rfl
theorem flo_UPPER : tLo ⟨#[85, 80, 80, 69, 82]⟩ = 1 := by kernel_rfl
theorem fkd_LOWER : tKd ⟨#[76, 79, 87, 69, 82]⟩ = ⟨#[115]⟩ := by kernel_rfl
theorem flo_LOWER : tLo ⟨#[76, 79, 87, 69, 82]⟩ = 1 := by kernel_rfl
theorem fkd_TRIM : tKd ⟨#[84, 82, 73, 77]⟩ = ⟨#[115]⟩ := by kernel_rfl
theorem flo_TRIM : tLo ⟨#[84, 82, 73, 77]⟩ = 1 := by kernel_rfl
theorem fkd_REPT : tKd ⟨#[82, 69, 80, 84]⟩ = ⟨#[115, 110]⟩ := by kernel_rfl
theorem flo_REPT : tLo ⟨#[82, 69, 80, 84]⟩ = 2 := by kernel_rfl
theorem fkd_FIND : tKd ⟨#[70, 73, 78, 68]⟩ = ⟨#[115, 115, 110]⟩ := by kernel_rfl
theorem flo_FIND : tLo ⟨#[70, 73, 78, 68]⟩ = 2 := by kernel_rfl
theorem fkd_SUBST : tKd ⟨#[83, 85, 66, 83, 84]⟩ = ⟨#[115, 115, 115]⟩ := by kernel_rfl
theorem flo_SUBST : tLo ⟨#[83, 85, 66, 83, 84]⟩ = 3 := by kernel_rfl
theorem fkd_ORD : tKd ⟨#[79, 82, 68]⟩ = ⟨#[115]⟩ := by kernel_rfl
theorem flo_ORD : tLo ⟨#[79, 82, 68]⟩ = 1 := by kernel_rfl
theorem fkd_CHAR : tKd ⟨#[67, 72, 65, 82]⟩ = ⟨#[110]⟩ := by kernel_rfl
theorem flo_CHAR : tLo ⟨#[67, 72, 65, 82]⟩ = 1 := by kernel_rfl
theorem fkd_EXACT : tKd ⟨#[69, 88, 65, 67, 84]⟩ = ⟨#[115, 115]⟩ := by kernel_rfl
theorem flo_EXACT : tLo ⟨#[69, 88, 65, 67, 84]⟩ = 2 := by kernel_rfl
theorem fkd_REV : tKd ⟨#[82, 69, 86]⟩ = ⟨#[115]⟩ := by kernel_rfl
theorem flo_REV : tLo ⟨#[82, 69, 86]⟩ = 1 := by kernel_rfl
theorem fkd_NUM : tKd ⟨#[78, 85, 77]⟩ = ⟨#[115]⟩ := by kernel_rfl
theorem flo_NUM : tLo ⟨#[78, 85, 77]⟩ = 1 := by kernel_rfl
theorem form_of (text : Int) {name : ByteArray} {l : List AL} {z : Bool} (ht : takesT name l.length z = true) : ∃ r, FormA text name (gS (tPairs name l)) (gN (tPairs name l)) r := by
  have hk := takesT_known ht
  have hx := (takesT_len ht).1
  have hlo : tLo name ≤ (l.length : Int) := by
    unfold takesT at ht
    simp only [Bool.and_eq_true, decide_eq_true_eq] at ht
    exact ht.1.1.2
  clear ht
  rcases tKnown_cases hk with rfl | rfl | rfl | rfl | rfl | rfl | rfl | rfl | rfl | rfl | rfl | rfl | rfl | rfl | rfl | rfl
  · rw [fkd_CONCAT] at hx
    rw [flo_CONCAT] at hlo
    obtain ⟨h1, h2⟩ := gS_all 16 l (by exact hx)
    have e : tPairs ⟨#[67, 79, 78, 67, 65, 84]⟩ l = (List.replicate 16 (115 : UInt8)).zip l := by unfold tPairs; rw [fkd_CONCAT]; rfl
    rw [e, h1, h2]
    exact ⟨_, .concat _ (by rw [List.length_map]; omega)⟩
  · rw [fkd_LEN] at hx
    rw [flo_LEN] at hlo
    have hx2 : l.length ≤ 1 := hx
    clear hx hk
    match l, hlo, hx2 with
    | [x0], _, _ =>
      have e1 : gS (tPairs ⟨#[76, 69, 78]⟩ [x0]) = [x0.v.asT] := by unfold tPairs gS; rw [fkd_LEN]; simp
      have e2 : gN (tPairs ⟨#[76, 69, 78]⟩ [x0]) = [] := by unfold tPairs gN; rw [fkd_LEN]; simp
      rw [e1, e2]
      exact ⟨_, .len (x0.v.asT)⟩
    | [], h, _ => exact absurd h (by simp)
    | _ :: _ :: _, _, h => exact absurd h (by simp)
  · rw [fkd_LEFT] at hx
    rw [flo_LEFT] at hlo
    have hx2 : l.length ≤ 2 := hx
    clear hx hk
    match l, hlo, hx2 with
    | [x0], _, _ =>
      have e1 : gS (tPairs ⟨#[76, 69, 70, 84]⟩ [x0]) = [x0.v.asT] := by unfold tPairs gS; rw [fkd_LEFT]; simp
      have e2 : gN (tPairs ⟨#[76, 69, 70, 84]⟩ [x0]) = [] := by unfold tPairs gN; rw [fkd_LEFT]; simp
      rw [e1, e2]
      exact ⟨_, .left0 (x0.v.asT)⟩
    | [x0, x1], _, _ =>
      have e1 : gS (tPairs ⟨#[76, 69, 70, 84]⟩ [x0, x1]) = [x0.v.asT] := by unfold tPairs gS; rw [fkd_LEFT]; simp
      have e2 : gN (tPairs ⟨#[76, 69, 70, 84]⟩ [x0, x1]) = [wholeV x1.v.asN] := by unfold tPairs gN; rw [fkd_LEFT]; simp
      rw [e1, e2]
      exact ⟨_, .left1 (x0.v.asT) (wholeV x1.v.asN)⟩
    | [], h, _ => exact absurd h (by simp)
    | _ :: _ :: _ :: _, _, h => exact absurd h (by simp)
  · rw [fkd_RIGHT] at hx
    rw [flo_RIGHT] at hlo
    have hx2 : l.length ≤ 2 := hx
    clear hx hk
    match l, hlo, hx2 with
    | [x0], _, _ =>
      have e1 : gS (tPairs ⟨#[82, 73, 71, 72, 84]⟩ [x0]) = [x0.v.asT] := by unfold tPairs gS; rw [fkd_RIGHT]; simp
      have e2 : gN (tPairs ⟨#[82, 73, 71, 72, 84]⟩ [x0]) = [] := by unfold tPairs gN; rw [fkd_RIGHT]; simp
      rw [e1, e2]
      exact ⟨_, .right0 (x0.v.asT)⟩
    | [x0, x1], _, _ =>
      have e1 : gS (tPairs ⟨#[82, 73, 71, 72, 84]⟩ [x0, x1]) = [x0.v.asT] := by unfold tPairs gS; rw [fkd_RIGHT]; simp
      have e2 : gN (tPairs ⟨#[82, 73, 71, 72, 84]⟩ [x0, x1]) = [wholeV x1.v.asN] := by unfold tPairs gN; rw [fkd_RIGHT]; simp
      rw [e1, e2]
      exact ⟨_, .right1 (x0.v.asT) (wholeV x1.v.asN)⟩
    | [], h, _ => exact absurd h (by simp)
    | _ :: _ :: _ :: _, _, h => exact absurd h (by simp)
  · rw [fkd_MID] at hx
    rw [flo_MID] at hlo
    have hx2 : l.length ≤ 3 := hx
    clear hx hk
    match l, hlo, hx2 with
    | [x0, x1, x2], _, _ =>
      have e1 : gS (tPairs ⟨#[77, 73, 68]⟩ [x0, x1, x2]) = [x0.v.asT] := by unfold tPairs gS; rw [fkd_MID]; simp
      have e2 : gN (tPairs ⟨#[77, 73, 68]⟩ [x0, x1, x2]) = [wholeV x1.v.asN, wholeV x2.v.asN] := by unfold tPairs gN; rw [fkd_MID]; simp
      rw [e1, e2]
      exact ⟨_, .mid (x0.v.asT) (wholeV x1.v.asN) (wholeV x2.v.asN)⟩
    | [], h, _ => exact absurd h (by simp)
    | [_], h, _ => exact absurd h (by simp)
    | [_, _], h, _ => exact absurd h (by simp)
    | _ :: _ :: _ :: _ :: _, _, h => exact absurd h (by simp)
  · rw [fkd_UPPER] at hx
    rw [flo_UPPER] at hlo
    have hx2 : l.length ≤ 1 := hx
    clear hx hk
    match l, hlo, hx2 with
    | [x0], _, _ =>
      have e1 : gS (tPairs ⟨#[85, 80, 80, 69, 82]⟩ [x0]) = [x0.v.asT] := by unfold tPairs gS; rw [fkd_UPPER]; simp
      have e2 : gN (tPairs ⟨#[85, 80, 80, 69, 82]⟩ [x0]) = [] := by unfold tPairs gN; rw [fkd_UPPER]; simp
      rw [e1, e2]
      exact ⟨_, .upper (x0.v.asT)⟩
    | [], h, _ => exact absurd h (by simp)
    | _ :: _ :: _, _, h => exact absurd h (by simp)
  · rw [fkd_LOWER] at hx
    rw [flo_LOWER] at hlo
    have hx2 : l.length ≤ 1 := hx
    clear hx hk
    match l, hlo, hx2 with
    | [x0], _, _ =>
      have e1 : gS (tPairs ⟨#[76, 79, 87, 69, 82]⟩ [x0]) = [x0.v.asT] := by unfold tPairs gS; rw [fkd_LOWER]; simp
      have e2 : gN (tPairs ⟨#[76, 79, 87, 69, 82]⟩ [x0]) = [] := by unfold tPairs gN; rw [fkd_LOWER]; simp
      rw [e1, e2]
      exact ⟨_, .lower (x0.v.asT)⟩
    | [], h, _ => exact absurd h (by simp)
    | _ :: _ :: _, _, h => exact absurd h (by simp)
  · rw [fkd_TRIM] at hx
    rw [flo_TRIM] at hlo
    have hx2 : l.length ≤ 1 := hx
    clear hx hk
    match l, hlo, hx2 with
    | [x0], _, _ =>
      have e1 : gS (tPairs ⟨#[84, 82, 73, 77]⟩ [x0]) = [x0.v.asT] := by unfold tPairs gS; rw [fkd_TRIM]; simp
      have e2 : gN (tPairs ⟨#[84, 82, 73, 77]⟩ [x0]) = [] := by unfold tPairs gN; rw [fkd_TRIM]; simp
      rw [e1, e2]
      exact ⟨_, .trim (x0.v.asT)⟩
    | [], h, _ => exact absurd h (by simp)
    | _ :: _ :: _, _, h => exact absurd h (by simp)
  · rw [fkd_REPT] at hx
    rw [flo_REPT] at hlo
    have hx2 : l.length ≤ 2 := hx
    clear hx hk
    match l, hlo, hx2 with
    | [x0, x1], _, _ =>
      have e1 : gS (tPairs ⟨#[82, 69, 80, 84]⟩ [x0, x1]) = [x0.v.asT] := by unfold tPairs gS; rw [fkd_REPT]; simp
      have e2 : gN (tPairs ⟨#[82, 69, 80, 84]⟩ [x0, x1]) = [wholeV x1.v.asN] := by unfold tPairs gN; rw [fkd_REPT]; simp
      rw [e1, e2]
      exact ⟨_, .rept (x0.v.asT) (wholeV x1.v.asN)⟩
    | [], h, _ => exact absurd h (by simp)
    | [_], h, _ => exact absurd h (by simp)
    | _ :: _ :: _ :: _, _, h => exact absurd h (by simp)
  · rw [fkd_FIND] at hx
    rw [flo_FIND] at hlo
    have hx2 : l.length ≤ 3 := hx
    clear hx hk
    match l, hlo, hx2 with
    | [x0, x1], _, _ =>
      have e1 : gS (tPairs ⟨#[70, 73, 78, 68]⟩ [x0, x1]) = [x0.v.asT, x1.v.asT] := by unfold tPairs gS; rw [fkd_FIND]; simp
      have e2 : gN (tPairs ⟨#[70, 73, 78, 68]⟩ [x0, x1]) = [] := by unfold tPairs gN; rw [fkd_FIND]; simp
      rw [e1, e2]
      exact ⟨_, .find0 (x0.v.asT) (x1.v.asT)⟩
    | [x0, x1, x2], _, _ =>
      have e1 : gS (tPairs ⟨#[70, 73, 78, 68]⟩ [x0, x1, x2]) = [x0.v.asT, x1.v.asT] := by unfold tPairs gS; rw [fkd_FIND]; simp
      have e2 : gN (tPairs ⟨#[70, 73, 78, 68]⟩ [x0, x1, x2]) = [wholeV x2.v.asN] := by unfold tPairs gN; rw [fkd_FIND]; simp
      rw [e1, e2]
      exact ⟨_, .find1 (x0.v.asT) (x1.v.asT) (wholeV x2.v.asN)⟩
    | [], h, _ => exact absurd h (by simp)
    | [_], h, _ => exact absurd h (by simp)
    | _ :: _ :: _ :: _ :: _, _, h => exact absurd h (by simp)
  · rw [fkd_SUBST] at hx
    rw [flo_SUBST] at hlo
    have hx2 : l.length ≤ 3 := hx
    clear hx hk
    match l, hlo, hx2 with
    | [x0, x1, x2], _, _ =>
      have e1 : gS (tPairs ⟨#[83, 85, 66, 83, 84]⟩ [x0, x1, x2]) = [x0.v.asT, x1.v.asT, x2.v.asT] := by unfold tPairs gS; rw [fkd_SUBST]; simp
      have e2 : gN (tPairs ⟨#[83, 85, 66, 83, 84]⟩ [x0, x1, x2]) = [] := by unfold tPairs gN; rw [fkd_SUBST]; simp
      rw [e1, e2]
      exact ⟨_, .subst (x0.v.asT) (x1.v.asT) (x2.v.asT)⟩
    | [], h, _ => exact absurd h (by simp)
    | [_], h, _ => exact absurd h (by simp)
    | [_, _], h, _ => exact absurd h (by simp)
    | _ :: _ :: _ :: _ :: _, _, h => exact absurd h (by simp)
  · rw [fkd_ORD] at hx
    rw [flo_ORD] at hlo
    have hx2 : l.length ≤ 1 := hx
    clear hx hk
    match l, hlo, hx2 with
    | [x0], _, _ =>
      have e1 : gS (tPairs ⟨#[79, 82, 68]⟩ [x0]) = [x0.v.asT] := by unfold tPairs gS; rw [fkd_ORD]; simp
      have e2 : gN (tPairs ⟨#[79, 82, 68]⟩ [x0]) = [] := by unfold tPairs gN; rw [fkd_ORD]; simp
      rw [e1, e2]
      exact ⟨_, .ord (x0.v.asT)⟩
    | [], h, _ => exact absurd h (by simp)
    | _ :: _ :: _, _, h => exact absurd h (by simp)
  · rw [fkd_CHAR] at hx
    rw [flo_CHAR] at hlo
    have hx2 : l.length ≤ 1 := hx
    clear hx hk
    match l, hlo, hx2 with
    | [x0], _, _ =>
      have e1 : gS (tPairs ⟨#[67, 72, 65, 82]⟩ [x0]) = [] := by unfold tPairs gS; rw [fkd_CHAR]; simp
      have e2 : gN (tPairs ⟨#[67, 72, 65, 82]⟩ [x0]) = [wholeV x0.v.asN] := by unfold tPairs gN; rw [fkd_CHAR]; simp
      rw [e1, e2]
      exact ⟨_, .char (wholeV x0.v.asN)⟩
    | [], h, _ => exact absurd h (by simp)
    | _ :: _ :: _, _, h => exact absurd h (by simp)
  · rw [fkd_EXACT] at hx
    rw [flo_EXACT] at hlo
    have hx2 : l.length ≤ 2 := hx
    clear hx hk
    match l, hlo, hx2 with
    | [x0, x1], _, _ =>
      have e1 : gS (tPairs ⟨#[69, 88, 65, 67, 84]⟩ [x0, x1]) = [x0.v.asT, x1.v.asT] := by unfold tPairs gS; rw [fkd_EXACT]; simp
      have e2 : gN (tPairs ⟨#[69, 88, 65, 67, 84]⟩ [x0, x1]) = [] := by unfold tPairs gN; rw [fkd_EXACT]; simp
      rw [e1, e2]
      exact ⟨_, .exact (x0.v.asT) (x1.v.asT)⟩
    | [], h, _ => exact absurd h (by simp)
    | [_], h, _ => exact absurd h (by simp)
    | _ :: _ :: _ :: _, _, h => exact absurd h (by simp)
  · rw [fkd_REV] at hx
    rw [flo_REV] at hlo
    have hx2 : l.length ≤ 1 := hx
    clear hx hk
    match l, hlo, hx2 with
    | [x0], _, _ =>
      have e1 : gS (tPairs ⟨#[82, 69, 86]⟩ [x0]) = [x0.v.asT] := by unfold tPairs gS; rw [fkd_REV]; simp
      have e2 : gN (tPairs ⟨#[82, 69, 86]⟩ [x0]) = [] := by unfold tPairs gN; rw [fkd_REV]; simp
      rw [e1, e2]
      exact ⟨_, .rev (x0.v.asT)⟩
    | [], h, _ => exact absurd h (by simp)
    | _ :: _ :: _, _, h => exact absurd h (by simp)
  · rw [fkd_NUM] at hx
    rw [flo_NUM] at hlo
    have hx2 : l.length ≤ 1 := hx
    clear hx hk
    match l, hlo, hx2 with
    | [x0], _, _ =>
      have e1 : gS (tPairs ⟨#[78, 85, 77]⟩ [x0]) = [x0.v.asT] := by unfold tPairs gS; rw [fkd_NUM]; simp
      have e2 : gN (tPairs ⟨#[78, 85, 77]⟩ [x0]) = [] := by unfold tPairs gN; rw [fkd_NUM]; simp
      rw [e1, e2]
      exact ⟨_, .num (x0.v.asT)⟩
    | [], h, _ => exact absurd h (by simp)
    | _ :: _ :: _, _, h => exact absurd h (by simp)
theorem whole_in9 {y : Int} (h : -9223372036854775808 ≤ y ∧ y ≤ 9223372036854775807) : -922337203685477 ≤ wholeV y ∧ wholeV y ≤ 922337203685477 := by
  unfold wholeV
  have e := Int.mul_tdiv_add_tmod y 10000
  split
  · rename_i h9
    rw [h9.2] at e
    omega
  · omega
theorem gS_in {P : ByteArray → Prop} (ps : List (UInt8 × AL)) (h : ∀ p ∈ ps, P p.2.v.asT) : ∀ s ∈ gS ps, P s := by
  intro s hs
  unfold gS at hs
  obtain ⟨p, hp, e⟩ := List.mem_filterMap.1 hs
  split at e
  · injection e with e; subst e; exact h p hp
  · cases e
theorem gN_in {P : Int → Prop} (ps : List (UInt8 × AL)) (h : ∀ p ∈ ps, P (wholeV p.2.v.asN)) : ∀ s ∈ gN ps, P s := by
  intro s hs
  unfold gN at hs
  obtain ⟨p, hp, e⟩ := List.mem_filterMap.1 hs
  split at e
  · cases e
  · injection e with e; subst e; exact h p hp
theorem pairs_mem {name : ByteArray} {l : List AL} {p : UInt8 × AL} (h : p ∈ tPairs name l) : p.2 ∈ l := (List.of_mem_zip h).2
theorem printL_len9 {x : Int} (h : -9223372036854775808 ≤ x ∧ x ≤ 9223372036854775807) : (printL x).length ≤ 26 := by
  unfold printL
  split
  · simp
  · unfold textOf
    have h1 := dec_len20 (u := x.natAbs / 10000) (by omega)
    have h2 := frac_len (x.natAbs % 10000)
    have h3 : ((if decide (x < 0) = true then [45] else []) : List UInt8).length ≤ 1 := by split <;> simp
    have h4 : ((if x.natAbs % 10000 = 0 then [] else 46 :: frac (x.natAbs % 10000)) : List UInt8).length ≤ 5 := by split <;> simp; omega
    rw [List.length_append, List.length_append]
    omega
theorem asT_size {v : VL} (hv : v.ok) (h : v.s.size ≤ 1048576) : v.asT.size ≤ 1048576 := by
  unfold VL.asT
  split
  · have := printL_len9 hv
    show (printL v.n).toArray.size ≤ _
    rw [List.size_toArray]; omega
  · split
    · exact h
    · split
      · split <;> decide
      · decide
end Go.Proofs.YtgmhifafbebjfaaGreatDoor
