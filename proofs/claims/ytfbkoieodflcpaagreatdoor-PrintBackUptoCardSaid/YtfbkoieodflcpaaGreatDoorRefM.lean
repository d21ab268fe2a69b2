/-
  refs: named whole, level, inside.
-/
import Derived.Test.YtfbkoieodflcpaaGreatDoorMg3
import Derived.Test.YtfbkoieodflcpaaGreatDoorRows
import Derived.Test.YtfbkoieodflcpaaGreatDoorMg0
import Derived.Test.YtfbkoieodflcpaaGreatDoorProg
import Derived.Test.YtfbkoieodflcpaaGreatDoorShelf
import Derived.Test.YtfbkoieodflcpaaGreatDoorMg4
import Derived.Test.YtfbkoieodflcpaaGreatDoorAddrC
import Derived.Test.YtfbkoieodflcpaaGreatDoorMg6
import Derived.Test.YtfbkoieodflcpaaGreatDoorValA
import Derived.Test.YtfbkoieodflcpaaGreatDoorValB
import Derived.Test.YtfbkoieodflcpaaGreatDoorMg9
import Derived.Test.YtfbkoieodflcpaaGreatDoorMg10
import Derived.Test.YtfbkoieodflcpaaGreatDoorMg11
import Derived.Test.YtfbkoieodflcpaaGreatDoorLexS
import Derived.Test.YtfbkoieodflcpaaGreatDoorRefN
import Derived.WalkSpells
import Derived.WalkLawsBesides
import Derived.StillTactics
import Derived.Laws.Pointers
import Derived.Deep.RegionHeld3
import Derived.Deep.QuietTactic
import Derived.BigQuiet
import Derived.RowKit3
import Derived.Lib.Hide
import Derived.Lib.OthersKept
import Derived.OwnWalk
import Derived.Lib.IndexLaws
import Derived.Lib.ItoaMem
import Derived.Lib.TrimByte
import Derived.Lib.SlTrimSet
import Derived.Lib.ParseIntB
import Derived.WalkKit
import Derived.ProofKit
import Derived.OpenShut
import Derived.Carry
import Derived.ChangeSame
import Derived.Deep.Draws
import Derived.Shelf.Strings.Builder1
import Derived.Shelf.Strings.Builder2
import Derived.Shelf.Strings.Trim
import Derived.Shelf.Small.Utf8
import Derived.Shelf.Small.Strs
import Derived.Shelf.Small.Wraps
import Derived.Shelf.Strings.BuilderF
import Derived.Shelf.Strings.BuilderK
import Derived.Shelf.Utf8.RuneCount
import Derived.Shelf.Strconv.Itoa0
import Derived.Shelf.Strconv.Itoa1
import Derived.Shelf.LaysM
import Derived.Shelf.Strconv.Itoa2
import Derived.Shelf.Strconv.Itoa3
import Derived.Ground.MpProg
import Derived.Shelf.Pu.ParseUintPublic10
import Derived.Shelf.Strings.Search1
import Derived.Shelf.Strings.Search2
import Derived.Shelf.Strings.Search3
import Derived.Shelf.Strings.Cut
import Derived.Shelf.Strings.Count
import Derived.Shelf.Strings.Shaped
import Derived.Shelf.Strings.Prefix
import Derived.Shelf.Strings.Split
import Derived.Shelf.Strings.Replace
import Derived.Shelf.Strings.SplitShaped
import Derived.Shelf.Unicode.Decode
import Derived.Shelf.Strings.Runes
import Derived.Shelf.Strings.RuneCount
import Derived.Shelf.Strings.AsciiSet
import Derived.Shelf.Unicode.DecodeSlow
import Derived.Shelf.Unicode.DecodeAny
import Derived.Shelf.Unicode.DecodeLast
import Derived.Lib.ItoaNum
import Derived.Maps.OwnSet
import Derived.Maps.AppendAt
namespace Go.Proofs.YtfbkoieodflcpaaGreatDoor
open Go.RowKit

set_option maxHeartbeats 1000000 in
theorem refnamed (l : List UInt8) (r : Bool) (hl : l.length ≤ 9223372036854775807) (h : namedB l = r) (w : World) : Calls Tryz.prog 98 #[.string ⟨l.toArray⟩] w fun e w' => e = .returned (.bool r) ∧ w = w' := by
  by_cases h1 : 1 ≤ l.length
  · by_cases h2 : l.length ≤ 16
    · by_cases n1 : l = [84, 82, 85, 69]
      · have hr : r = false := by rw [← h, n1]; decide
        subst hr
        clear h
        subst n1
        clear h1 h2 hl
        go_enter Tryz.func98, Tryz.ntmps98
        go_wp2
        go_ret
        exact ⟨rfl, rfl⟩
      · by_cases n2 : l = [70, 65, 76, 83, 69]
        · have hr : r = false := by rw [← h, n2]; decide
          subst hr
          clear h
          subst n2
          clear h1 h2 hl n1
          go_enter Tryz.func98, Tryz.ntmps98
          go_wp2
          go_ret
          exact ⟨rfl, rfl⟩
        · obtain ⟨u, hu⟩ : ∃ u, (l.takeWhile upB).length = u := ⟨_, rfl⟩
          obtain ⟨d, hd⟩ : ∃ d, ((l.drop u).takeWhile isDig).length = d := ⟨_, rfl⟩
          obtain ⟨t, ht⟩ : ∃ t, (l.takeWhile partB).length = t := ⟨_, rfl⟩
          have hul : u ≤ l.length := by rw [← hu]; exact takeWhile_le _ _
          have hdl : u + d ≤ l.length := by have := takeWhile_le isDig (l.drop u); rw [hd, List.length_drop] at this; omega
          have htl : t ≤ l.length := by rw [← ht]; exact takeWhile_le _ _
          have hm := meant_form l u d hu hd
          have hA : ∀ j (h2 : j < l.length), j < u → upB l[j] = true := fun j h2 h3 => twg_in upB l j (by omega) h2
          have hB : ∀ j (h2 : j < l.length), u ≤ j → j < u + d → isDig l[j] = true := fun j h2 h3 h4 => by
            have := twg_in isDig (l.drop u) (j - u) (by omega) (by simp; omega)
            simpa [show u + (j - u) = j by omega] using this
          have hC : ∀ j (h2 : j < l.length), j < t → partB l[j] = true := fun j h2 h3 => twg_in partB l j (by omega) h2
          have hD : ∀ (h2 : u < l.length), upB l[u] = false := fun h2 => by have := twg_out upB l (by omega); simp only [hu] at this; exact this
          have hE : ∀ (h2 : u + d < l.length), isDig l[u + d] = false := fun h2 => by have := twg_out isDig (l.drop u) (by simp; omega); simp only [hd] at this; simpa using this
          have hF : ∀ (h2 : t < l.length), partB l[t] = false := fun h2 => by have := twg_out partB l (by omega); simp only [ht] at this; exact this
          obtain ⟨b, m, rfl⟩ : ∃ b m, l = b :: m := by cases l with | nil => simp at h1 | cons b m => exact ⟨b, m, rfl⟩
          by_cases hu0 : u = 0
          · have hb0 : upB b = false := by subst hu0; exact hD (by omega)
            have hr : r = false := by rw [← h]; simp [namedB, hb0]
            refine refnamed_loop _ h1 h2 n1 n2 u d 0 r hul hdl (by omega) (Or.inr rfl) (fun _ hh => by omega) (fun _ hh => by omega) (fun _ hh => by omega) (fun _ hh => by omega) (fun _ hh => by omega) (fun _ => ⟨fun hh => by omega, fun _ => hb0⟩) ⟨fun _ => hr, fun hh => by omega⟩ w
          · have hb0 : upB b = true := hA 0 (by omega) (by omega)
            have hall : t = (b :: m).length ↔ (b :: m).all partB = true := by
              constructor
              · intro hh
                have h8 := takeWhile_all partB (b :: m)
                rwa [show (b :: m).takeWhile partB = b :: m by rw [takeWhile_take, ht, hh, List.take_length]] at h8
              · intro hh
                rw [← ht, takeWhile_self partB _ hh]
            refine refnamed_loop _ h1 h2 n1 n2 u d t r hul hdl htl (Or.inl (by omega)) (fun j _ h8 h9 => hA j h8 h9) (fun j _ h8 h9 => hB j h8 h9) (fun j h7 h8 _ => hC j h8 h7) (fun h8 _ => hD h8) (fun h8 _ => hE h8) (fun h8 => ⟨fun _ => hF h8, fun h9 => ?_⟩) ⟨fun h8 => ?_, fun h8 => ?_⟩ w
            · exfalso
              have := hF h8
              subst h9
              simp [partB, hb0] at this
            · rw [← h]
              have h9 : (b :: m).all partB = false := by
                rw [Bool.eq_false_iff]
                exact fun hh => by have := hall.mpr hh; omega
              simp only [namedB]
              rw [h9]
              simp
            · rw [← h]
              have h9 := hall.mp h8
              simp only [namedB]
              rw [h9, hm, hb0, decide_eq_true h1, decide_eq_true h2, decide_eq_false n1, decide_eq_false n2]
              simp only [Bool.true_and, Bool.or_false, Bool.not_false]
              have hlen : (b :: m).length = m.length + 1 := rfl
              by_cases h3 : u < (b :: m).length
              · by_cases h4 : u + d = (b :: m).length
                · simp only [h3, h4, decide_true, Bool.and_true, Bool.not_true]; symm; simp; omega
                · simp only [h3, h4, decide_true, decide_false, Bool.and_false, Bool.not_false]; symm; simp; omega
              · simp only [h3, decide_false, Bool.false_and, Bool.not_false]; symm; simp; omega
    · have hr : r = false := by rw [← h]; simp [namedB, h2]
      subst hr
      clear h
      have h3 : (l.length : Int) > 16 := by omega
      have h4 : ¬ (l.length : Int) < 1 := by omega
      clear h1 h2
      go_enter Tryz.func98, Tryz.ntmps98
      go_wp2
      go_ret
      exact ⟨rfl, rfl⟩
  · have hr : r = false := by rw [← h]; simp [namedB, h1]
    subst hr
    clear h
    have h0 : l = [] := by cases l with | nil => rfl | cons b m => simp at h1
    subst h0
    clear h1 hl
    go_enter Tryz.func98, Tryz.ntmps98
    go_wp2
    go_ret
    exact ⟨rfl, rfl⟩
set_option maxHeartbeats 1000000 in
theorem rlevel (op : Int) (h1 : 1 ≤ op) (h2 : op ≤ 13) (w : World) : Calls Tryz.prog 58 #[.int .i64 op] w fun e w' => e = .returned (.int .i64 (levelI op)) ∧ w = w' := by
  have h3 : op = 1 ∨ op = 2 ∨ op = 3 ∨ op = 4 ∨ op = 5 ∨ op = 6 ∨ op = 7 ∨ op = 8 ∨ op = 9 ∨ op = 10 ∨ op = 11 ∨ op = 12 ∨ op = 13 := by omega
  clear h1 h2
  rcases h3 with rfl | rfl | rfl | rfl | rfl | rfl | rfl | rfl | rfl | rfl | rfl | rfl | rfl
  all_goals
    go_enter Tryz.func58, Tryz.ntmps58
    go_wp2
    go_ret
    exact ⟨rfl, rfl⟩
set_option maxHeartbeats 1000000 in
theorem rinside (p : PL) (k d : Int) (hd : 0 ≤ p.depth) (hd2 : p.depth ≤ 1000000) (h : p.inside k = d) (w : World) : Calls Tryz.prog 59 #[.agg #[.int .i64 p.depth, .int .i64 p.binds, .bool p.many], .int .i64 k] w fun e w' => e = .returned (.int .i64 d) ∧ Below w.heap.size w w' := by
  obtain ⟨x, y, z⟩ := p
  change 0 ≤ x at hd
  change x ≤ 1000000 at hd2
  have e1 : IntKind.i64.wrap (x + 1) = x + 1 := IntWalk.i64_in _ (by omega)
  unfold PL.inside at h
  change (if y < k then x + 1 else x) = d at h
  by_cases hy : y < k
  · rw [if_pos hy] at h
    subst h
    show Calls Tryz.prog 59 #[.agg #[.int .i64 x, .int .i64 y, .bool z], .int .i64 k] w _
    go_enter Tryz.func59, Tryz.ntmps59
    go_wp2
    go_ret
    exact ⟨rfl, by (repeat (first | (with_reducible exact Below.refl _ _) | (with_reducible refine Below.alloc ?_ (by first | omega | (dsimp only; omega) | (simp <;> omega)) _) | (with_reducible refine Below.setCell ?_ (by first | omega | (dsimp only; omega) | (simp <;> omega)) _) | (with_reducible refine Below.drew ?_) | (with_reducible refine below_drewN ?_ _) | (with_reducible refine Below.trans ?_ (Below.mono (by assumption) (by first | omega | (dsimp only; omega) | (simp <;> omega))))))⟩
  · rw [if_neg hy] at h
    subst h
    show Calls Tryz.prog 59 #[.agg #[.int .i64 x, .int .i64 y, .bool z], .int .i64 k] w _
    go_enter Tryz.func59, Tryz.ntmps59
    go_wp2
    go_ret
    exact ⟨rfl, by (repeat (first | (with_reducible exact Below.refl _ _) | (with_reducible refine Below.alloc ?_ (by first | omega | (dsimp only; omega) | (simp <;> omega)) _) | (with_reducible refine Below.setCell ?_ (by first | omega | (dsimp only; omega) | (simp <;> omega)) _) | (with_reducible refine Below.drew ?_) | (with_reducible refine below_drewN ?_ _) | (with_reducible refine Below.trans ?_ (Below.mono (by assumption) (by first | omega | (dsimp only; omega) | (simp <;> omega))))))⟩
end Go.Proofs.YtfbkoieodflcpaaGreatDoor
