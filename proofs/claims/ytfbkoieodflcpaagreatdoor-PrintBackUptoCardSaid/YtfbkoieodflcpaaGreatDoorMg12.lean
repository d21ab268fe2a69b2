/-
  NameRect of package addr, and the document's own; print: plain; print: sign, at, literal.
-/
import Derived.Test.YtfbkoieodflcpaaGreatDoorRows
import Derived.Test.YtfbkoieodflcpaaGreatDoorMg0
import Derived.Test.YtfbkoieodflcpaaGreatDoorAddrC
import Derived.Test.YtfbkoieodflcpaaGreatDoorMg6
import Derived.Test.YtfbkoieodflcpaaGreatDoorMg11
import Derived.Test.YtfbkoieodflcpaaGreatDoorProg
import Derived.Test.YtfbkoieodflcpaaGreatDoorShelf
import Derived.Test.YtfbkoieodflcpaaGreatDoorMg2
import Derived.Test.YtfbkoieodflcpaaGreatDoorMg3
import Derived.Test.YtfbkoieodflcpaaGreatDoorMg4
import Derived.Test.YtfbkoieodflcpaaGreatDoorValA
import Derived.Test.YtfbkoieodflcpaaGreatDoorValB
import Derived.Test.YtfbkoieodflcpaaGreatDoorMg9
import Derived.Test.YtfbkoieodflcpaaGreatDoorMg10
import Derived.Test.YtfbkoieodflcpaaGreatDoorValL
import Derived.WalkSpells
import Derived.WalkLawsBesides
import Derived.StillTactics
import Derived.Laws.Pointers
import Derived.Deep.RegionHeld3
import Derived.Deep.QuietTactic
import Derived.BigQuiet
import Derived.RowKit3
import Derived.Lib.Hide
import Derived.Lib.OthersKept
import Derived.OwnWalk
import Derived.Lib.IndexLaws
import Derived.WalkKit
import Derived.ProofKit
import Derived.OpenShut
import Derived.Carry
import Derived.ChangeSame
import Derived.Deep.Draws
import Derived.Lib.ItoaNum
import Derived.Lib.ItoaMem
import Derived.Shelf.Strings.Builder1
import Derived.Shelf.Strings.Builder2
import Derived.Shelf.Strings.Trim
import Derived.Shelf.Small.Utf8
import Derived.Shelf.Small.Strs
import Derived.Shelf.Small.Wraps
import Derived.Shelf.Strings.BuilderF
import Derived.Shelf.Strings.BuilderK
import Derived.Shelf.Utf8.RuneCount
import Derived.Shelf.Strconv.Itoa0
import Derived.Shelf.Strconv.Itoa1
import Derived.Shelf.LaysM
import Derived.Shelf.Strconv.Itoa2
import Derived.Shelf.Strconv.Itoa3
import Derived.Ground.MpProg
import Derived.Shelf.Pu.ParseUintPublic10
import Derived.Shelf.Strings.Search1
import Derived.Shelf.Strings.Search2
import Derived.Shelf.Strings.Search3
import Derived.Shelf.Strings.Cut
import Derived.Shelf.Strings.Count
import Derived.Shelf.Strings.Shaped
import Derived.Shelf.Strings.Prefix
import Derived.Shelf.Strings.Split
import Derived.Shelf.Strings.Replace
import Derived.Shelf.Strings.SplitShaped
import Derived.Shelf.Unicode.Decode
import Derived.Shelf.Strings.Runes
import Derived.Shelf.Strings.RuneCount
import Derived.Shelf.Strings.AsciiSet
import Derived.Shelf.Unicode.DecodeSlow
import Derived.Shelf.Unicode.DecodeAny
import Derived.Shelf.Unicode.DecodeLast
import Derived.Lib.Replace
import Derived.Lib.TrimByte
import Derived.Lib.SlTrimSet
import Derived.Lib.ParseIntB
import Derived.Maps.OwnSet
import Derived.Maps.AppendAt
import Derived.Lib.Bytealg
namespace Go.Proofs.YtfbkoieodflcpaaGreatDoor
open Go.RowKit

/-- a rectangle's name, the empty text of one that may not be -/
def nameRectZ (t l b r : Int) : List UInt8 := if mayRectB t l b r then nameZ t l ++ 58 :: nameZ b r else []
theorem nameZ_len (r c : Int) : (nameZ r c).length ≤ 6 := by
  cases h : mayB r c
  · rw [nameZ_no h]; simp
  · obtain ⟨r', c', rfl, rfl, hm⟩ := mayB_ints h
    rw [nameZ_nat hm]
    obtain ⟨m1, m2, m3, m4⟩ := mayN_of hm
    have := dec_len (r := r') (by omega)
    have := col_len c'
    simp [nameL]; omega
theorem nameRect_no {t l b r : Int} (h : mayRectB t l b r = false) : nameRectZ t l b r = [] := by simp [nameRectZ, h]
theorem nameRect_yes {t l b r : Int} (h : mayRectB t l b r = true) : nameRectZ t l b r = nameZ t l ++ 58 :: nameZ b r := by simp [nameRectZ, h]

set_option maxHeartbeats 400000 in
theorem nameR_no (t l b r : Int) (h : mayRectB t l b r = false) (w : World) : Calls Tryz.prog 13 #[.agg #[.int .i64 t, .int .i64 l, .int .i64 b, .int .i64 r]] w fun e w' => e = .returned (.string ⟨(nameRectZ t l b r).toArray⟩) ∧ Below w.heap.size w w' := by
  have hn := Lib.hid (nameRect_no h)
  go_enter Tryz.func13, Tryz.ntmps13
  go_wp2_with (go_at_call 34; refine (mayRect_any _ _ _ _ _).mono ?_; rintro e w1 ⟨rfl, hb⟩; obtain ⟨hc, hf, hz⟩ := bkeep hb (w.heap.size + 1) (by first | omega | (simp <;> omega)))
  go_ret
  exact ⟨by rw [hn.out]; rfl, by (repeat (first | (with_reducible exact Below.refl _ _) | (with_reducible refine Below.alloc ?_ (by first | omega | (dsimp only; omega) | (simp <;> omega)) _) | (with_reducible refine Below.setCell ?_ (by first | omega | (dsimp only; omega) | (simp <;> omega)) _) | (with_reducible refine Below.drew ?_) | (with_reducible refine below_drewN ?_ _) | (with_reducible refine Below.trans ?_ (Below.mono (by assumption) (by first | omega | (dsimp only; omega) | (simp <;> omega))))))⟩
set_option maxHeartbeats 1000000 in
theorem nameR_yes (t l b r : Int) (h : mayRectB t l b r = true) (w : World) (ht : Tab w) : Calls Tryz.prog 13 #[.agg #[.int .i64 t, .int .i64 l, .int .i64 b, .int .i64 r]] w fun e w' => e = .returned (.string ⟨(nameRectZ t l b r).toArray⟩) ∧ Below w.heap.size w w' := by
  have hn := Lib.hid (nameRect_yes h)
  have hl1 := nameZ_len t l
  have hl2 := nameZ_len b r
  have hadd1 : ∀ w' : World, (Op.stringOp .add ⟨(nameZ t l).toArray⟩ ⟨#[58]⟩).run Tryz.prog w' = .ok (.string ⟨(nameZ t l ++ [58]).toArray⟩) w' := fun w' => run_string_add_lists (P := Tryz.prog) w' (nameZ t l) [58] (by omega) (by decide)
  have hadd2 := fun w' => run_string_add_lists (P := Tryz.prog) w' (nameZ t l ++ [58]) (nameZ b r) (by simp; omega) (by omega)
  go_enter Tryz.func13, Tryz.ntmps13
  go_wp2_with (go_at_call 34; refine (mayRect_any _ _ _ _ _).mono ?_; rintro e w1 ⟨rfl, hb⟩; obtain ⟨hc, hf, hz⟩ := bkeep hb (w.heap.size + 1) (by first | omega | (simp <;> omega)); have ht1 := Tab.below ht (by (repeat (first | (with_reducible exact Below.refl _ _) | (with_reducible refine Below.alloc ?_ (by first | omega | (dsimp only; omega) | (simp <;> omega)) _) | (with_reducible refine Below.setCell ?_ (by first | omega | (dsimp only; omega) | (simp <;> omega)) _) | (with_reducible refine Below.drew ?_) | (with_reducible refine below_drewN ?_ _) | (with_reducible refine Below.trans ?_ (Below.mono (by assumption) (by first | omega | (dsimp only; omega) | (simp <;> omega))))))))
  go_region_held3 (fun w' => w'.cell? ⟨w.heap.size, 0, none⟩ = some (.int .i64 t) ∧ w'.cell? ⟨w.heap.size, 1, none⟩ = some (.int .i64 l) ∧ w'.cell? ⟨w.heap.size, 2, none⟩ = some (.int .i64 b) ∧ w'.cell? ⟨w.heap.size, 3, none⟩ = some (.int .i64 r) ∧ Tab w' ∧ Below w.heap.size w w' ∧ w.heap.size + 1 ≤ w'.heap.size)
    (first | ((go_split_ands; refine ⟨?_, ?_, ?_, ?_, ?_, ?_, ?_⟩ <;> first | (rw [hb.cell (by dsimp only; omega)]; assumption) | exact Below.trans (by assumption) (hb.mono (by omega)) | exact Tab.below (by assumption) hb | (have := hb.size; omega))) | ((refine ⟨?_, ?_, ?_, ?_, ?_, ?_, ?_⟩ <;> first | (simp [go_sem, *]; done) | ((repeat (first | (with_reducible exact Below.refl _ _) | (with_reducible refine Below.alloc ?_ (by first | omega | (dsimp only; omega) | (simp <;> omega)) _) | (with_reducible refine Below.setCell ?_ (by first | omega | (dsimp only; omega) | (simp <;> omega)) _) | (with_reducible refine Below.drew ?_) | (with_reducible refine below_drewN ?_ _) | (with_reducible refine Below.trans ?_ (Below.mono (by assumption) (by first | omega | (dsimp only; omega) | (simp <;> omega)))))); done) | exact Tab.below (by assumption) (by (repeat (first | (with_reducible exact Below.refl _ _) | (with_reducible refine Below.alloc ?_ (by first | omega | (dsimp only; omega) | (simp <;> omega)) _) | (with_reducible refine Below.setCell ?_ (by first | omega | (dsimp only; omega) | (simp <;> omega)) _) | (with_reducible refine Below.drew ?_) | (with_reducible refine below_drewN ?_ _) | (with_reducible refine Below.trans ?_ (Below.mono (by assumption) (by first | omega | (dsimp only; omega) | (simp <;> omega))))))) | (simp; omega))))
    (first | (go_at_call 35; refine (first_any _ _ _ _ _).mono ?_; rintro e w1 ⟨rfl, hb⟩) | (go_at_call 36; refine (last_any _ _ _ _ _).mono ?_; rintro e w1 ⟨rfl, hb⟩) | (go_at_call 12; refine (aname_any _ _ _ (by first | assumption | (go_split_ands; assumption))).mono ?_; rintro e w1 ⟨rfl, hb⟩))
  go_split_ands
  go_wp2
  go_ret
  go_split_ands
  exact ⟨by rw [hn.out]; rfl, by assumption⟩
theorem nameR_any (t l b r : Int) (w : World) (ht : Tab w) : Calls Tryz.prog 13 #[.agg #[.int .i64 t, .int .i64 l, .int .i64 b, .int .i64 r]] w fun e w' => e = .returned (.string ⟨(nameRectZ t l b r).toArray⟩) ∧ Below w.heap.size w w' := by
  cases h : mayRectB t l b r
  · exact nameR_no t l b r h w
  · exact nameR_yes t l b r h w ht
end Go.Proofs.YtfbkoieodflcpaaGreatDoor
namespace Go.Proofs.YtfbkoieodflcpaaGreatDoor
open Go.RowKit

/-- a text between quotes: each quote twice -/
def quotesL (l : List UInt8) : List UInt8 := l.flatMap fun b => if b = 34 then [34, 34] else [b]
theorem replK_one (c : UInt8) (new : List UInt8) : ∀ s : List UInt8, Lib.replaceK [c] new (Lib.count s [c]) s = s.flatMap fun b => if b = c then new else [b]
  | [] => rfl
  | b :: l => by
    have ih := replK_one c new l
    rw [List.flatMap_cons]
    by_cases hb : b = c
    · subst hb
      rw [Lib.count_cons_eq, Nat.add_comm, if_pos rfl, Lib.replaceK_hit [b] new _ (b :: l) 0 (by rw [Lib.index_one]; simp [Lib.indexByte])]
      simp only [List.take_zero, List.nil_append, List.length_singleton, Nat.zero_add, List.drop_succ_cons, List.drop_zero]
      rw [ih]
    · rw [Lib.count_cons_ne b c l hb, if_neg hb]
      cases hk : Lib.count l [c] with
      | zero =>
        rw [hk] at ih
        rw [← ih]
        rfl
      | succ k =>
        obtain ⟨i, hi⟩ := Lib.index_of_count (s := l) (old := [c]) (by omega)
        have hi2 : Lib.index (b :: l) [c] = ((i + 1 : Nat) : Int) := by
          rw [Lib.index_one] at hi ⊢
          have hbc : ¬ (b == c) = true := fun e => hb (by simpa using e)
          have hm : ¬ (Lib.indexByte l c == -1) = true := fun e => by have := beq_iff_eq.1 e; omega
          rw [Lib.indexByte, if_neg hbc, if_neg hm, hi]
          push_cast
          rfl
        rw [hk, Lib.replaceK_hit [c] new k l i hi] at ih
        rw [Lib.replaceK_hit [c] new k (b :: l) (i + 1) hi2, ← ih]
        rw [show (b :: l).take (i + 1) = b :: l.take i from rfl, show (b :: l).drop (i + 1 + [c].length) = l.drop (i + [c].length) from rfl]
        simp only [List.cons_append, List.nil_append, List.append_assoc]
theorem quotes_eq (s : List UInt8) : Lib.replaceAll s [34] [34, 34] = quotesL s := by
  unfold Lib.replaceAll Lib.replace
  rw [if_neg (by decide)]
  unfold Lib.replaceNum
  rw [if_pos (Or.inl (by decide))]
  exact replK_one 34 [34, 34] s
theorem quotes_len : ∀ l : List UInt8, (quotesL l).length ≤ 2 * l.length
  | [] => by simp [quotesL]
  | b :: l => by
    have := quotes_len l
    unfold quotesL at *
    rw [List.flatMap_cons, List.length_append, List.length_cons]
    have : (if b = 34 then [34, 34] else [b] : List UInt8).length ≤ 2 := by split <;> simp
    omega
/-- a text and how closely it binds -/
structure TL where
  text : List UInt8
  binds : Int
def TL.cs (x : TL) : List Value := [.string ⟨x.text.toArray⟩, .int .i64 x.binds]
def TL.at' (x : TL) (k : Int) : List UInt8 := if x.binds < k then 40 :: (x.text ++ [41]) else x.text
def opT (op : Int) : List UInt8 := if op = 1 then [45] else if op = 2 then [37] else if op = 3 then [42] else if op = 4 then [47] else if op = 5 then [43] else if op = 6 then [45] else if op = 7 then [38] else if op = 8 then [61] else if op = 9 then [60, 62] else if op = 10 then [60] else if op = 11 then [60, 61] else if op = 12 then [62] else [62, 61]
def litT (v : VL) : List UInt8 := if v.t = 1 then printL v.n else if v.t = 2 then 34 :: (quotesL v.s.data.toList ++ [34]) else if v.t = 3 then (if v.b then [84, 82, 85, 69] else [70, 65, 76, 83, 69]) else (codeName v.c).data.toList
def joinT (l : List TL) : List UInt8 := match l with
  | [] => []
  | x :: l => x.text ++ l.flatMap fun y => 44 :: y.text
def stepT (st : List TL) (n : NL) : List TL :=
  if n.kind = 1 then st ++ [⟨litT n.v, 7⟩]
  else if n.kind = 2 then st ++ [⟨nameZ n.r n.c, 7⟩]
  else if n.kind = 3 then st ++ [⟨nameRectZ n.t n.l n.b n.q, 7⟩]
  else if n.kind = 4 then
    if n.op = 1 then
      match st.reverse with
      | b :: s => s.reverse ++ [⟨opT n.op ++ b.at' (levelI n.op), levelI n.op⟩]
      | [] => st
    else if n.op = 2 then
      match st.reverse with
      | b :: s => s.reverse ++ [⟨b.at' (levelI n.op) ++ opT n.op, levelI n.op⟩]
      | [] => st
    else
      match st.reverse with
      | b :: a :: s => s.reverse ++ [⟨a.at' (levelI n.op) ++ opT n.op ++ b.at' (levelI n.op + 1), levelI n.op⟩]
      | _ => st
  else st.take (st.length - n.args.toNat) ++ [⟨n.name.data.toList ++ 40 :: (joinT (st.drop (st.length - n.args.toNat)) ++ [41]), 7⟩]
def putT (l : List NL) : List TL := l.foldl stepT []
/-- a formula's one text -/
def formT (l : List NL) : List UInt8 := 61 :: (match putT l with | x :: _ => x.text | [] => [])
def tlRow (l : List TL) : List Value := (l.map TL.cs).flatten
theorem tlRow_app (a b : List TL) : tlRow (a ++ b) = tlRow a ++ tlRow b := by simp [tlRow]
theorem tlRow_one (p : TL) : tlRow [p] = p.cs := by simp [tlRow]
theorem tlRow_len : ∀ l : List TL, (tlRow l).length = l.length * 2
  | [] => rfl
  | p :: l => by
    rw [show tlRow (p :: l) = p.cs ++ tlRow l from rfl, List.length_append, tlRow_len l, show p.cs.length = 2 from rfl, List.length_cons, Nat.succ_mul, Nat.add_comm]
theorem stepT_neg {s : List TL} {b : TL} {n : NL} (hk : n.kind = 4) (ho : n.op = 1) : stepT (s ++ [b]) n = s ++ [⟨opT n.op ++ b.at' (levelI n.op), levelI n.op⟩] := by unfold stepT; rw [if_neg (by omega), if_neg (by omega), if_neg (by omega), if_pos hk, if_pos ho]; simp
theorem stepT_pct {s : List TL} {b : TL} {n : NL} (hk : n.kind = 4) (ho : n.op = 2) : stepT (s ++ [b]) n = s ++ [⟨b.at' (levelI n.op) ++ opT n.op, levelI n.op⟩] := by unfold stepT; rw [if_neg (by omega), if_neg (by omega), if_neg (by omega), if_pos hk, if_neg (by omega), if_pos ho]; simp
theorem stepT_two {s : List TL} {a b : TL} {n : NL} (hk : n.kind = 4) (h1 : n.op ≠ 1) (h2 : n.op ≠ 2) : stepT (s ++ [a, b]) n = s ++ [⟨a.at' (levelI n.op) ++ opT n.op ++ b.at' (levelI n.op + 1), levelI n.op⟩] := by unfold stepT; rw [if_neg (by omega), if_neg (by omega), if_neg (by omega), if_pos hk, if_neg h1, if_neg h2]; simp
theorem stepT_call {s t : List TL} {n : NL} (hk : n.kind = 5) (hl : t.length = n.args.toNat) : stepT (s ++ t) n = s ++ [⟨n.name.data.toList ++ 40 :: (joinT t ++ [41]), 7⟩] := by
  unfold stepT
  rw [if_neg (by omega), if_neg (by omega), if_neg (by omega), if_neg (by omega), show (s ++ t).length - n.args.toNat = s.length by rw [List.length_append]; omega]
  simp
theorem putT_take (ns : List NL) (j : Nat) (n : NL) (h : ns[j]? = some n) : putT (ns.take (j + 1)) = stepT (putT (ns.take j)) n := by
  unfold putT
  rw [List.take_add_one, h, List.foldl_append]
  rfl
/-- what a row of texts takes, all told -/
def totT (l : List TL) : Nat := (l.map fun x => x.text.length).sum
theorem totT_app (a b : List TL) : totT (a ++ b) = totT a + totT b := by simp [totT]
theorem totT_one (x : TL) : totT [x] = x.text.length := by simp [totT]
theorem totT_mem {l : List TL} {x : TL} (h : x ∈ l) : x.text.length ≤ totT l := by
  obtain ⟨a, b, rfl⟩ := List.append_of_mem h
  rw [show a ++ x :: b = a ++ ([x] ++ b) from rfl, totT_app, totT_app, totT_one]; omega
theorem at_len (x : TL) (k : Int) : (x.at' k).length ≤ x.text.length + 2 := by unfold TL.at'; split <;> simp
theorem sign_len (op : Int) : (opT op).length ≤ 2 := by unfold opT; (repeat' split) <;> simp
theorem flat_len : ∀ l : List TL, (l.flatMap fun y => 44 :: y.text).length = l.length + totT l
  | [] => rfl
  | y :: l => by
    rw [List.flatMap_cons, List.length_append, flat_len l]
    simp only [totT, List.map_cons, List.sum_cons, List.length_cons] at *; omega
theorem join_len (l : List TL) : (joinT l).length ≤ l.length + totT l := by
  cases l with
  | nil => simp [joinT]
  | cons x l =>
    show (x.text ++ _).length ≤ _
    rw [List.length_append, flat_len, show x :: l = [x] ++ l from rfl, totT_app, totT_one]
    simp; omega
theorem join_snoc (l : List TL) (x : TL) (h : l ≠ []) : joinT (l ++ [x]) = joinT l ++ 44 :: x.text := by
  cases l with
  | nil => exact absurd rfl h
  | cons y l => simp [joinT]
end Go.Proofs.YtfbkoieodflcpaaGreatDoor
namespace Go.Proofs.YtfbkoieodflcpaaGreatDoor
open Go.RowKit

set_option maxHeartbeats 1000000 in
theorem prsign (op : Int) (h1 : 1 ≤ op) (h2 : op ≤ 13) (w : World) : Calls Tryz.prog 14 #[.int .i64 op] w fun e w' => e = .returned (.tuple #[.string ⟨(opT op).toArray⟩, .int .i64 (levelI op)]) ∧ w = w' := by
  have h3 : op = 1 ∨ op = 2 ∨ op = 3 ∨ op = 4 ∨ op = 5 ∨ op = 6 ∨ op = 7 ∨ op = 8 ∨ op = 9 ∨ op = 10 ∨ op = 11 ∨ op = 12 ∨ op = 13 := by omega
  clear h1 h2
  rcases h3 with rfl | rfl | rfl | rfl | rfl | rfl | rfl | rfl | rfl | rfl | rfl | rfl | rfl
  all_goals
    go_enter Tryz.func14, Tryz.ntmps14
    go_wp2
    go_ret2
    exact ⟨rfl, rfl⟩
theorem brack_eq (l : List UInt8) : (⟨#[40]⟩ : ByteArray) ++ ⟨l.toArray⟩ ++ ⟨#[41]⟩ = ⟨(40 :: (l ++ [41])).toArray⟩ := by
  apply ByteArray.ext
  simp
set_option maxHeartbeats 1000000 in
theorem prat (x : TL) (k : Int) (hl : x.text.length ≤ 100000000000000) (r : List UInt8) (h : x.at' k = r) (w : World) : Calls Tryz.prog 15 #[.agg #[.string ⟨x.text.toArray⟩, .int .i64 x.binds], .int .i64 k] w fun e w' => e = .returned (.string ⟨r.toArray⟩) ∧ Below w.heap.size w w' := by
  subst h
  obtain ⟨l, b⟩ := x
  show Calls Tryz.prog 15 #[.agg #[.string ⟨l.toArray⟩, .int .i64 b], .int .i64 k] w _
  change l.length ≤ 100000000000000 at hl
  by_cases hb : b < k
  · have e : TL.at' ⟨l, b⟩ k = 40 :: (l ++ [41]) := by unfold TL.at'; rw [if_pos hb]
    rw [e]
    clear e
    go_enter Tryz.func15, Tryz.ntmps15
    go_wp2
    go_ret
    exact ⟨by rw [← brack_eq]; rfl, by (repeat (first | (with_reducible exact Below.refl _ _) | (with_reducible refine Below.alloc ?_ (by first | omega | (dsimp only; omega) | (simp <;> omega)) _) | (with_reducible refine Below.setCell ?_ (by first | omega | (dsimp only; omega) | (simp <;> omega)) _) | (with_reducible refine Below.drew ?_) | (with_reducible refine below_drewN ?_ _) | (with_reducible refine Below.trans ?_ (Below.mono (by assumption) (by first | omega | (dsimp only; omega) | (simp <;> omega))))))⟩
  · have e : TL.at' ⟨l, b⟩ k = l := by unfold TL.at'; rw [if_neg hb]
    rw [e]
    clear e
    go_enter Tryz.func15, Tryz.ntmps15
    go_wp2
    go_ret
    exact ⟨rfl, by (repeat (first | (with_reducible exact Below.refl _ _) | (with_reducible refine Below.alloc ?_ (by first | omega | (dsimp only; omega) | (simp <;> omega)) _) | (with_reducible refine Below.setCell ?_ (by first | omega | (dsimp only; omega) | (simp <;> omega)) _) | (with_reducible refine Below.drew ?_) | (with_reducible refine below_drewN ?_ _) | (with_reducible refine Below.trans ?_ (Below.mono (by assumption) (by first | omega | (dsimp only; omega) | (simp <;> omega))))))⟩
theorem vmay_cases (v : VL) (h : v.may = true) (h0 : v.t ≠ 0) : (v.t = 1 ∧ v.s = ⟨#[]⟩ ∧ v.b = false ∧ v.c = 0) ∨ (v.t = 2 ∧ v.n = 0 ∧ v.b = false ∧ v.c = 0) ∨ (v.t = 3 ∧ v.n = 0 ∧ v.s = ⟨#[]⟩ ∧ v.c = 0) ∨ (v.t = 4 ∧ v.n = 0 ∧ v.s = ⟨#[]⟩ ∧ v.b = false ∧ 1 ≤ v.c ∧ v.c ≤ 8) := by
  obtain ⟨t, n, s, b, c⟩ := v
  simp only [VL.may, vMay, Bool.and_eq_true, decide_eq_true_eq, Bool.or_eq_true, Bool.not_eq_true'] at h
  obtain ⟨⟨⟨⟨⟨⟨⟨h1, h2⟩, h3⟩, h4⟩, h5⟩, h6⟩, h7⟩, h8⟩ := h
  change t ≠ 0 at h0
  show (t = 1 ∧ s = ⟨#[]⟩ ∧ b = false ∧ c = 0) ∨ (t = 2 ∧ n = 0 ∧ b = false ∧ c = 0) ∨ (t = 3 ∧ n = 0 ∧ s = ⟨#[]⟩ ∧ c = 0) ∨ (t = 4 ∧ n = 0 ∧ s = ⟨#[]⟩ ∧ b = false ∧ 1 ≤ c ∧ c ≤ 8)
  have ht : t = 1 ∨ t = 2 ∨ t = 3 ∨ t = 4 := by omega
  rcases ht with rfl | rfl | rfl | rfl
  · simp at h4 h5 h6; exact Or.inl ⟨rfl, h4, h5, h6⟩
  · simp at h3 h5 h6; exact Or.inr (Or.inl ⟨rfl, h3, h5, h6⟩)
  · simp at h3 h4 h6; exact Or.inr (Or.inr (Or.inl ⟨rfl, h3, h4, h6⟩))
  · simp at h3 h4 h5 h8; exact Or.inr (Or.inr (Or.inr ⟨rfl, h3, h4, h5, h8⟩))
theorem quot_eq (l : List UInt8) : (⟨#[34]⟩ : ByteArray) ++ ⟨l.toArray⟩ ++ ⟨#[34]⟩ = ⟨(34 :: (l ++ [34])).toArray⟩ := by
  apply ByteArray.ext
  simp
set_option maxHeartbeats 1000000 in
theorem prlit (v : VL) (hv : v.ok) (hm : v.may = true) (h0 : v.t ≠ 0) (hs : v.s.size < 4294967281) (w : World) (ht : Tab w) : Calls Tryz.prog 11 #[.agg #[.int .i64 v.t, .int .i64 v.n, .string v.s, .bool v.b, .int .i64 v.c]] w fun e w' => e = .returned (.string ⟨(litT v).toArray⟩) ∧ Below w.heap.size w w' := by
  have hc := vmay_cases v hm h0
  clear hm h0
  obtain ⟨t, n, s, b, c⟩ := v
  change -9223372036854775808 ≤ n ∧ n ≤ 9223372036854775807 at hv
  change s.size < 4294967281 at hs
  show Calls Tryz.prog 11 #[.agg #[.int .i64 t, .int .i64 n, .string s, .bool b, .int .i64 c]] w _
  rcases hc with ⟨e, e2, e3, e4⟩ | ⟨e, e2, e3, e4⟩ | ⟨e, e2, e3, e4⟩ | ⟨e, e2, e3, e4, e5⟩
  · change t = 1 at e; change s = ⟨#[]⟩ at e2; change b = false at e3; change c = 0 at e4
    subst e e2 e3 e4
    have e : litT ⟨1, n, ⟨#[]⟩, false, 0⟩ = printL n := rfl
    rw [e]
    clear e
    go_enter Tryz.func11, Tryz.ntmps11
    go_wp2_with (go_at_call 28; refine (dprint_any n hv _ (Tab.below ht (by (repeat (first | (with_reducible exact Below.refl _ _) | (with_reducible refine Below.alloc ?_ (by first | omega | (dsimp only; omega) | (simp <;> omega)) _) | (with_reducible refine Below.setCell ?_ (by first | omega | (dsimp only; omega) | (simp <;> omega)) _) | (with_reducible refine Below.drew ?_) | (with_reducible refine below_drewN ?_ _) | (with_reducible refine Below.trans ?_ (Below.mono (by assumption) (by first | omega | (dsimp only; omega) | (simp <;> omega))))))))).mono ?_; rintro e w1 ⟨rfl, hb⟩)
    go_ret
    exact ⟨rfl, by (repeat (first | (with_reducible exact Below.refl _ _) | (with_reducible refine Below.alloc ?_ (by first | omega | (dsimp only; omega) | (simp <;> omega)) _) | (with_reducible refine Below.setCell ?_ (by first | omega | (dsimp only; omega) | (simp <;> omega)) _) | (with_reducible refine Below.drew ?_) | (with_reducible refine below_drewN ?_ _) | (with_reducible refine Below.trans ?_ (Below.mono (by assumption) (by first | omega | (dsimp only; omega) | (simp <;> omega))))))⟩
  · change t = 2 at e; change n = 0 at e2; change b = false at e3; change c = 0 at e4
    subst e e2 e3 e4
    obtain ⟨l, rfl⟩ : ∃ l : List UInt8, s = ⟨l.toArray⟩ := ⟨s.data.toList, by cases s; simp⟩
    have hl : l.length < 4294967281 := by simpa [ByteArray.size] using hs
    have e : litT ⟨2, 0, ⟨l.toArray⟩, false, 0⟩ = 34 :: (Lib.replaceAll l [34] [34, 34] ++ [34]) := by rw [quotes_eq]; unfold litT; rw [if_neg (by show ¬ (2 : Int) = 1; decide), if_pos rfl]
    rw [e]
    clear e
    have hcnt := Lib.count_le l [34]
    have hq : (Lib.replaceAll l [34] [34, 34]).length ≤ 8589934562 := by
      rw [quotes_eq]
      have := quotes_len l
      omega
    have hmx' := Lib.hid (fun o => (Tab.below ht ((Below.refl _ w).alloc (Nat.le_refl _) o)).2)
    go_enter Tryz.func11, Tryz.ntmps11
    go_wp2_with fail
    go_at_call 29
    refine (Tryz.strings_ReplaceAll ⟨l.toArray⟩ ⟨#[34]⟩ ⟨#[34, 34]⟩ _ _ hs (hmx'.out _).choose_spec (by decide) (by show l.toArray.size + Lib.count l [34] * 2 ≤ _; simp; omega)).mono ?_
    rintro e w1 ⟨rfl, hb⟩
    go_wp2
    go_ret
    exact ⟨by rw [← quot_eq]; rfl, by (repeat (first | (with_reducible exact Below.refl _ _) | (with_reducible refine Below.alloc ?_ (by first | omega | (dsimp only; omega) | (simp <;> omega)) _) | (with_reducible refine Below.setCell ?_ (by first | omega | (dsimp only; omega) | (simp <;> omega)) _) | (with_reducible refine Below.drew ?_) | (with_reducible refine below_drewN ?_ _) | (with_reducible refine Below.trans ?_ (Below.mono (by assumption) (by first | omega | (dsimp only; omega) | (simp <;> omega))))))⟩
  · change t = 3 at e; change n = 0 at e2; change s = ⟨#[]⟩ at e3; change c = 0 at e4
    subst e e2 e3 e4
    cases b
    · have e : litT ⟨3, 0, ⟨#[]⟩, false, 0⟩ = [70, 65, 76, 83, 69] := rfl
      rw [e]
      clear e
      go_enter Tryz.func11, Tryz.ntmps11
      go_wp2_with (go_at_call 30; refine (show_f _).mono ?_; rintro e w1 ⟨rfl, hb⟩)
      go_ret
      exact ⟨rfl, by (repeat (first | (with_reducible exact Below.refl _ _) | (with_reducible refine Below.alloc ?_ (by first | omega | (dsimp only; omega) | (simp <;> omega)) _) | (with_reducible refine Below.setCell ?_ (by first | omega | (dsimp only; omega) | (simp <;> omega)) _) | (with_reducible refine Below.drew ?_) | (with_reducible refine below_drewN ?_ _) | (with_reducible refine Below.trans ?_ (Below.mono (by assumption) (by first | omega | (dsimp only; omega) | (simp <;> omega))))))⟩
    · have e : litT ⟨3, 0, ⟨#[]⟩, true, 0⟩ = [84, 82, 85, 69] := rfl
      rw [e]
      clear e
      go_enter Tryz.func11, Tryz.ntmps11
      go_wp2_with (go_at_call 30; refine (show_t _).mono ?_; rintro e w1 ⟨rfl, hb⟩)
      go_ret
      exact ⟨rfl, by (repeat (first | (with_reducible exact Below.refl _ _) | (with_reducible refine Below.alloc ?_ (by first | omega | (dsimp only; omega) | (simp <;> omega)) _) | (with_reducible refine Below.setCell ?_ (by first | omega | (dsimp only; omega) | (simp <;> omega)) _) | (with_reducible refine Below.drew ?_) | (with_reducible refine below_drewN ?_ _) | (with_reducible refine Below.trans ?_ (Below.mono (by assumption) (by first | omega | (dsimp only; omega) | (simp <;> omega))))))⟩
  · change t = 4 at e; change n = 0 at e2; change s = ⟨#[]⟩ at e3; change b = false at e4; change 1 ≤ c ∧ c ≤ 8 at e5
    subst e e2 e3 e4
    have e : litT ⟨4, 0, ⟨#[]⟩, false, c⟩ = (codeName c).data.toList := rfl
    rw [e]
    clear e
    go_enter Tryz.func11, Tryz.ntmps11
    go_wp2_with (go_at_call 30; refine (show_4 c e5 _).mono ?_; rintro e w1 ⟨rfl, hb⟩)
    go_ret
    exact ⟨by cases codeName c; first | rfl | simp, by (repeat (first | (with_reducible exact Below.refl _ _) | (with_reducible refine Below.alloc ?_ (by first | omega | (dsimp only; omega) | (simp <;> omega)) _) | (with_reducible refine Below.setCell ?_ (by first | omega | (dsimp only; omega) | (simp <;> omega)) _) | (with_reducible refine Below.drew ?_) | (with_reducible refine below_drewN ?_ _) | (with_reducible refine Below.trans ?_ (Below.mono (by assumption) (by first | omega | (dsimp only; omega) | (simp <;> omega))))))⟩
end Go.Proofs.YtfbkoieodflcpaaGreatDoor
