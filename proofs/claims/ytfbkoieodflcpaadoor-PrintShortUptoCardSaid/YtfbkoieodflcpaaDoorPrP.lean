/-
  print: plain.
-/
import Derived.Test.YtfbkoieodflcpaaDoorMg4
import Derived.Test.YtfbkoieodflcpaaDoorRows
import Derived.Test.YtfbkoieodflcpaaDoorBase
import Derived.Test.YtfbkoieodflcpaaDoorProg
import Derived.Test.YtfbkoieodflcpaaDoorShelf
import Derived.Test.YtfbkoieodflcpaaDoorAddrC
import Derived.Test.YtfbkoieodflcpaaDoorNames
import Derived.Test.YtfbkoieodflcpaaDoorMg7
import Derived.Test.YtfbkoieodflcpaaDoorDecA
import Derived.Test.YtfbkoieodflcpaaDoorValA
import Derived.Test.YtfbkoieodflcpaaDoorValB
import Derived.Test.YtfbkoieodflcpaaDoorMg11
import Derived.Test.YtfbkoieodflcpaaDoorLexP
import Derived.Test.YtfbkoieodflcpaaDoorRowB
import Derived.Test.YtfbkoieodflcpaaDoorMapK
import Derived.Test.YtfbkoieodflcpaaDoorArgK
import Derived.Test.YtfbkoieodflcpaaDoorRefP
import Derived.Test.YtfbkoieodflcpaaDoorRefQ
import Derived.Test.YtfbkoieodflcpaaDoorShelfC
import Derived.Test.YtfbkoieodflcpaaDoorFmtU
import Derived.Test.YtfbkoieodflcpaaDoorNameX
import Derived.Test.YtfbkoieodflcpaaDoorNameY
import Derived.Test.YtfbkoieodflcpaaDoorDPrint
import Derived.Test.YtfbkoieodflcpaaDoorValL
import Derived.Lib.Replace
import Derived.WalkSpells
import Derived.WalkLawsBesides
import Derived.StillTactics
import Derived.Laws.Pointers
import Derived.Deep.RegionHeld3
import Derived.Deep.QuietTactic
import Derived.BigQuiet
import Derived.RowKit3
import Derived.Lib.Hide
import Derived.Lib.OthersKept
import Derived.OwnWalk
import Derived.Lib.IndexLaws
import Derived.Lib.ItoaMem
import Derived.Lib.TrimByte
import Derived.Lib.SlTrimSet
import Derived.Lib.ParseIntB
import Derived.WalkKit
import Derived.ProofKit
import Derived.OpenShut
import Derived.Carry
import Derived.ChangeSame
import Derived.Deep.Draws
import Derived.Shelf.Strings.Builder1
import Derived.Shelf.Strings.Builder2
import Derived.Shelf.Strings.Trim
import Derived.Shelf.Small.Utf8
import Derived.Shelf.Small.Strs
import Derived.Shelf.Strings.BuilderF
import Derived.Shelf.Strings.BuilderK
import Derived.Shelf.Strconv.Itoa0
import Derived.Shelf.Strconv.Itoa1
import Derived.Shelf.LaysM
import Derived.Shelf.Strconv.Itoa2
import Derived.Shelf.Strconv.Itoa3
import Derived.Shelf.Strings.Search1
import Derived.Shelf.Strings.Search2
import Derived.Shelf.Strings.Search3
import Derived.Shelf.Strings.Count
import Derived.Shelf.Strings.Shaped
import Derived.Shelf.Strings.Split
import Derived.Shelf.Strings.Replace
import Derived.Shelf.Strings.Runes
import Derived.Shelf.Strings.AsciiSet
import Derived.Shelf.Unicode.DecodeSlow
import Derived.Lib.ItoaNum
import Derived.Maps.OwnSet
import Derived.Maps.AppendAt
import Derived.Lib.Bytealg
namespace Go.Proofs.YtfbkoieodflcpaaDoor
open Go.RowKit

/-- a text between quotes: each quote twice -/
def quotesL (l : List UInt8) : List UInt8 := l.flatMap fun b => if b = 34 then [34, 34] else [b]
theorem replK_one (c : UInt8) (new : List UInt8) : ∀ s : List UInt8, Lib.replaceK [c] new (Lib.count s [c]) s = s.flatMap fun b => if b = c then new else [b]
  | [] => rfl
  | b :: l => by
    have ih := replK_one c new l
    rw [List.flatMap_cons]
    by_cases hb : b = c
    · subst hb
      rw [Lib.count_cons_eq, Nat.add_comm, if_pos rfl, Lib.replaceK_hit [b] new _ (b :: l) 0 (by rw [Lib.index_one]; simp [Lib.indexByte])]
      simp only [List.take_zero, List.nil_append, List.length_singleton, Nat.zero_add, List.drop_succ_cons, List.drop_zero]
      rw [ih]
    · rw [Lib.count_cons_ne b c l hb, if_neg hb]
      cases hk : Lib.count l [c] with
      | zero =>
        rw [hk] at ih
        rw [← ih]
        rfl
      | succ k =>
        obtain ⟨i, hi⟩ := Lib.index_of_count (s := l) (old := [c]) (by omega)
        have hi2 : Lib.index (b :: l) [c] = ((i + 1 : Nat) : Int) := by
          rw [Lib.index_one] at hi ⊢
          have hbc : ¬ (b == c) = true := fun e => hb (by simpa using e)
          have hm : ¬ (Lib.indexByte l c == -1) = true := fun e => by have := beq_iff_eq.1 e; omega
          rw [Lib.indexByte, if_neg hbc, if_neg hm, hi]
          push_cast
          rfl
        rw [hk, Lib.replaceK_hit [c] new k l i hi] at ih
        rw [Lib.replaceK_hit [c] new k (b :: l) (i + 1) hi2, ← ih]
        rw [show (b :: l).take (i + 1) = b :: l.take i from rfl, show (b :: l).drop (i + 1 + [c].length) = l.drop (i + [c].length) from rfl]
        simp only [List.cons_append, List.nil_append, List.append_assoc]
theorem quotes_eq (s : List UInt8) : Lib.replaceAll s [34] [34, 34] = quotesL s := by
  unfold Lib.replaceAll Lib.replace
  rw [if_neg (by decide)]
  unfold Lib.replaceNum
  rw [if_pos (Or.inl (by decide))]
  exact replK_one 34 [34, 34] s
theorem quotes_len : ∀ l : List UInt8, (quotesL l).length ≤ 2 * l.length
  | [] => by simp [quotesL]
  | b :: l => by
    have := quotes_len l
    unfold quotesL at *
    rw [List.flatMap_cons, List.length_append, List.length_cons]
    have : (if b = 34 then [34, 34] else [b] : List UInt8).length ≤ 2 := by split <;> simp
    omega
/-- a text and how closely it binds -/
structure TL where
  text : List UInt8
  binds : Int
def TL.cs (x : TL) : List Value := [.string ⟨x.text.toArray⟩, .int .i64 x.binds]
def TL.at' (x : TL) (k : Int) : List UInt8 := if x.binds < k then 40 :: (x.text ++ [41]) else x.text
def opT (op : Int) : List UInt8 := if op = 1 then [45] else if op = 2 then [37] else if op = 3 then [42] else if op = 4 then [47] else if op = 5 then [43] else if op = 6 then [45] else if op = 7 then [38] else if op = 8 then [61] else if op = 9 then [60, 62] else if op = 10 then [60] else if op = 11 then [60, 61] else if op = 12 then [62] else [62, 61]
def litT (v : VL) : List UInt8 := if v.t = 1 then printL v.n else if v.t = 2 then 34 :: (quotesL v.s.data.toList ++ [34]) else if v.t = 3 then (if v.b then [84, 82, 85, 69] else [70, 65, 76, 83, 69]) else (codeName v.c).data.toList
def joinT (l : List TL) : List UInt8 := match l with
  | [] => []
  | x :: l => x.text ++ l.flatMap fun y => 44 :: y.text
def stepT (st : List TL) (n : NL) : List TL :=
  if n.kind = 1 then st ++ [⟨litT n.v, 7⟩]
  else if n.kind = 2 then st ++ [⟨nameZ n.r n.c, 7⟩]
  else if n.kind = 3 then st ++ [⟨nameRectZ n.t n.l n.b n.q, 7⟩]
  else if n.kind = 4 then
    if n.op = 1 then
      match st.reverse with
      | b :: s => s.reverse ++ [⟨opT n.op ++ b.at' (levelI n.op), levelI n.op⟩]
      | [] => st
    else if n.op = 2 then
      match st.reverse with
      | b :: s => s.reverse ++ [⟨b.at' (levelI n.op) ++ opT n.op, levelI n.op⟩]
      | [] => st
    else
      match st.reverse with
      | b :: a :: s => s.reverse ++ [⟨a.at' (levelI n.op) ++ opT n.op ++ b.at' (levelI n.op + 1), levelI n.op⟩]
      | _ => st
  else st.take (st.length - n.args.toNat) ++ [⟨n.name.data.toList ++ 40 :: (joinT (st.drop (st.length - n.args.toNat)) ++ [41]), 7⟩]
def putT (l : List NL) : List TL := l.foldl stepT []
/-- a formula's one text -/
def formT (l : List NL) : List UInt8 := 61 :: (match putT l with | x :: _ => x.text | [] => [])
def tlRow (l : List TL) : List Value := (l.map TL.cs).flatten
theorem tlRow_app (a b : List TL) : tlRow (a ++ b) = tlRow a ++ tlRow b := by simp [tlRow]
theorem tlRow_one (p : TL) : tlRow [p] = p.cs := by simp [tlRow]
theorem tlRow_len : ∀ l : List TL, (tlRow l).length = l.length * 2
  | [] => rfl
  | p :: l => by
    rw [show tlRow (p :: l) = p.cs ++ tlRow l from rfl, List.length_append, tlRow_len l, show p.cs.length = 2 from rfl, List.length_cons, Nat.succ_mul, Nat.add_comm]
theorem stepT_neg {s : List TL} {b : TL} {n : NL} (hk : n.kind = 4) (ho : n.op = 1) : stepT (s ++ [b]) n = s ++ [⟨opT n.op ++ b.at' (levelI n.op), levelI n.op⟩] := by unfold stepT; rw [if_neg (by omega), if_neg (by omega), if_neg (by omega), if_pos hk, if_pos ho]; simp
theorem stepT_pct {s : List TL} {b : TL} {n : NL} (hk : n.kind = 4) (ho : n.op = 2) : stepT (s ++ [b]) n = s ++ [⟨b.at' (levelI n.op) ++ opT n.op, levelI n.op⟩] := by unfold stepT; rw [if_neg (by omega), if_neg (by omega), if_neg (by omega), if_pos hk, if_neg (by omega), if_pos ho]; simp
theorem stepT_two {s : List TL} {a b : TL} {n : NL} (hk : n.kind = 4) (h1 : n.op ≠ 1) (h2 : n.op ≠ 2) : stepT (s ++ [a, b]) n = s ++ [⟨a.at' (levelI n.op) ++ opT n.op ++ b.at' (levelI n.op + 1), levelI n.op⟩] := by unfold stepT; rw [if_neg (by omega), if_neg (by omega), if_neg (by omega), if_pos hk, if_neg h1, if_neg h2]; simp
theorem stepT_call {s t : List TL} {n : NL} (hk : n.kind = 5) (hl : t.length = n.args.toNat) : stepT (s ++ t) n = s ++ [⟨n.name.data.toList ++ 40 :: (joinT t ++ [41]), 7⟩] := by
  unfold stepT
  rw [if_neg (by omega), if_neg (by omega), if_neg (by omega), if_neg (by omega), show (s ++ t).length - n.args.toNat = s.length by rw [List.length_append]; omega]
  simp
theorem putT_take (ns : List NL) (j : Nat) (n : NL) (h : ns[j]? = some n) : putT (ns.take (j + 1)) = stepT (putT (ns.take j)) n := by
  unfold putT
  rw [List.take_add_one, h, List.foldl_append]
  rfl
/-- what a row of texts takes, all told -/
def totT (l : List TL) : Nat := (l.map fun x => x.text.length).sum
theorem totT_app (a b : List TL) : totT (a ++ b) = totT a + totT b := by simp [totT]
theorem totT_one (x : TL) : totT [x] = x.text.length := by simp [totT]
theorem totT_mem {l : List TL} {x : TL} (h : x ∈ l) : x.text.length ≤ totT l := by
  obtain ⟨a, b, rfl⟩ := List.append_of_mem h
  rw [show a ++ x :: b = a ++ ([x] ++ b) from rfl, totT_app, totT_app, totT_one]; omega
theorem at_len (x : TL) (k : Int) : (x.at' k).length ≤ x.text.length + 2 := by unfold TL.at'; split <;> simp
theorem sign_len (op : Int) : (opT op).length ≤ 2 := by unfold opT; (repeat' split) <;> simp
theorem flat_len : ∀ l : List TL, (l.flatMap fun y => 44 :: y.text).length = l.length + totT l
  | [] => rfl
  | y :: l => by
    rw [List.flatMap_cons, List.length_append, flat_len l]
    simp only [totT, List.map_cons, List.sum_cons, List.length_cons] at *; omega
theorem join_len (l : List TL) : (joinT l).length ≤ l.length + totT l := by
  cases l with
  | nil => simp [joinT]
  | cons x l =>
    show (x.text ++ _).length ≤ _
    rw [List.length_append, flat_len, show x :: l = [x] ++ l from rfl, totT_app, totT_one]
    simp; omega
theorem join_snoc (l : List TL) (x : TL) (h : l ≠ []) : joinT (l ++ [x]) = joinT l ++ 44 :: x.text := by
  cases l with
  | nil => exact absurd rfl h
  | cons y l => simp [joinT]
end Go.Proofs.YtfbkoieodflcpaaDoor
