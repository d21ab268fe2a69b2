/-
  texts: each function behind its name; the laws' calls.
-/
import Derived.Test.YtaomlgpakbjegaaGreatDoorRows
import Derived.Test.YtaomlgpakbjegaaGreatDoorBase
import Derived.Test.YtaomlgpakbjegaaGreatDoorMapK
import Derived.Test.YtaomlgpakbjegaaGreatDoorProg
import Derived.Test.YtaomlgpakbjegaaGreatDoorShelf
import Derived.Test.YtaomlgpakbjegaaGreatDoorTFind
import Derived.Test.YtaomlgpakbjegaaGreatDoorRowB
import Derived.Test.YtaomlgpakbjegaaGreatDoorDecA
import Derived.Test.YtaomlgpakbjegaaGreatDoorValA
import Derived.Test.YtaomlgpakbjegaaGreatDoorValB
import Derived.Test.YtaomlgpakbjegaaGreatDoorMg10
import Derived.Test.YtaomlgpakbjegaaGreatDoorValC
import Derived.Test.YtaomlgpakbjegaaGreatDoorAddrC
import Derived.Test.YtaomlgpakbjegaaGreatDoorAddrI
import Derived.Test.YtaomlgpakbjegaaGreatDoorMg14
import Derived.Test.YtaomlgpakbjegaaGreatDoorFmtU
import Derived.Test.YtaomlgpakbjegaaGreatDoorPrintL
import Derived.Test.YtaomlgpakbjegaaGreatDoorDPrint
import Derived.Test.YtaomlgpakbjegaaGreatDoorRPr
import Derived.Test.YtaomlgpakbjegaaGreatDoorNDoE
import Derived.Test.YtaomlgpakbjegaaGreatDoorTCall
import Derived.Test.YtaomlgpakbjegaaGreatDoorValD
import Derived.Test.YtaomlgpakbjegaaGreatDoorMg21
import Derived.Test.YtaomlgpakbjegaaGreatDoorValJ
import Derived.Test.YtaomlgpakbjegaaGreatDoorValL
import Derived.Test.YtaomlgpakbjegaaGreatDoorNCallK
import Derived.Test.YtaomlgpakbjegaaGreatDoorTCallK
import Derived.Test.YtaomlgpakbjegaaGreatDoorTDoA
import Derived.Test.YtaomlgpakbjegaaGreatDoorTCallB
import Derived.Test.YtaomlgpakbjegaaGreatDoorTDoB
import Derived.Test.YtaomlgpakbjegaaGreatDoorTDoC
import Derived.Test.YtaomlgpakbjegaaGreatDoorTDoD
import Derived.Test.YtaomlgpakbjegaaGreatDoorTArg
import Derived.Test.YtaomlgpakbjegaaGreatDoorTLaw
import Derived.WalkSpells
import Derived.WalkLawsBesides
import Derived.StillTactics
import Derived.Laws.Pointers
import Derived.Deep.RegionHeld3
import Derived.Deep.QuietTactic
import Derived.BigQuiet
import Derived.RowKit3
import Derived.Lib.Hide
import Derived.Lib.OthersKept
import Derived.OwnWalk
import Derived.Lib.IndexLaws
import Derived.Lib.ItoaMem
import Derived.WalkKit
import Derived.ProofKit
import Derived.OpenShut
import Derived.Carry
import Derived.ChangeSame
import Derived.Deep.Draws
import Derived.Maps.OwnSet
import Derived.Maps.AppendAt
import Derived.Shelf.Strings.Builder1
import Derived.Shelf.Strings.Builder2
import Derived.Shelf.Strings.OnBuilder
import Derived.Shelf.Strings.Trim
import Derived.Shelf.Small.Bits
import Derived.Shelf.Small.Strs
import Derived.Shelf.Small.Wraps
import Derived.Shelf.Strings.BuilderF
import Derived.Shelf.Strings.BuilderK
import Derived.Shelf.Strconv.Itoa0
import Derived.Shelf.Strconv.Itoa1
import Derived.Shelf.LaysM
import Derived.Shelf.Strconv.Itoa2
import Derived.Ground.MpProg
import Derived.Shelf.Pu.ParseUintPublic10
import Derived.Shelf.Strings.Search1
import Derived.Shelf.Strings.Search2
import Derived.Shelf.Strings.Search3
import Derived.Shelf.Strings.Cut
import Derived.Shelf.Strings.Prefix
import Derived.Shelf.Strings.Runes
import Derived.Shelf.Strings.AsciiSet
import Derived.Shelf.Bits.Mul64
import Derived.Shelf.Strings.Repeat
import Derived.Laws.EntriesVeiled
import Derived.Laws.BitsAllLaws
import Derived.Lib.TrimByte
import Derived.Lib.Bytealg
import Derived.Lib.SlTrimSet
import Derived.Lib.ParseIntB
import Derived.Shelf.Strings.SlTrimAscii
import Derived.Lib.SmallJoins
import Derived.Deep.RegionWith
import Derived.IntWalk
import Derived.Laws.IdiomStrings
import Derived.RegionTactic
import Derived.ChangeAlike
namespace Go.Proofs.YtaomlgpakbjegaaGreatDoor
open Go.RowKit

theorem third_of {a b c a' b' c' : Value} (h : Value.agg #[a, b, c] = Value.agg #[a', b', c']) : c = c' := by
  injection h with h
  injection h with h
  injection h with _ h
  injection h with _ h
  injection h with h _
set_option maxRecDepth 100000 in
theorem at_LEN (s : ByteArray) (hs : s.size ≤ 1024) (text : Int) : DoT ⟨#[76, 69, 78]⟩ [s] [] text (numL ((s.size : Int) * 10000)) := ⟨fun w b0 b1 b2 b3 kd lo d vs vn h q0 q1 q2 q3 ht hS hN => by
  have e : lookL tZero (tTab b0 b1 b2 b3) ⟨#[76, 69, 78]⟩ = .agg #[.string ⟨#[115]⟩, .int .i64 1, .func (.func 84) #[] #[]] := by kernel_rfl
  have hd := third_of (e.symm.trans h)
  exact ⟨84, #[], hd.symm, fun _ _ => by simp [go_sem], tdo_LEN s hs text vs vn w hS hN⟩⟩
set_option maxRecDepth 100000 in
theorem at_MID (s : ByteArray) (hs : s.size ≤ 1024) (a b : Int) (hb : -922337203685477 ≤ b ∧ b ≤ 922337203685477) (ha : -922337203685477 ≤ a ∧ a ≤ 922337203685477) (h1 : 1 ≤ a) (h2 : 0 ≤ b) (text : Int) : DoT ⟨#[77, 73, 68]⟩ [s] [a, b] text (toldT text (cutD (midD s a) b)) := ⟨fun w b0 b1 b2 b3 kd lo d vs vn h q0 q1 q2 q3 ht hS hN => by
  have e : lookL tZero (tTab b0 b1 b2 b3) ⟨#[77, 73, 68]⟩ = .agg #[.string ⟨#[115, 110, 110]⟩, .int .i64 3, .func (.func 88) #[] #[]] := by kernel_rfl
  have hd := third_of (e.symm.trans h)
  exact ⟨88, #[], hd.symm, fun _ _ => by simp [go_sem], tdo_MID s hs a b hb ha h1 h2 text vs vn w hS hN⟩⟩
/-- an argument of the laws -/
def IsA (x : AL) : Prop := (∃ s, x = txA s) ∨ ∃ n, (-922337203685477 ≤ n ∧ n ≤ 922337203685477) ∧ x = whA n
theorem isa_t (s : ByteArray) : IsA (txA s) := .inl ⟨s, rfl⟩
theorem isa_n (n : Int) (h : -922337203685477 ≤ n ∧ n ≤ 922337203685477) : IsA (whA n) := .inr ⟨n, h, rfl⟩
theorem isa_ok {x : AL} (h : IsA x) : x.v.ok := by
  rcases h with ⟨s, rfl⟩ | ⟨n, h, rfl⟩
  · exact ⟨by show (_ : Int) ≤ 0; omega, by show (0 : Int) ≤ _; omega⟩
  · exact ⟨by show (_ : Int) ≤ n * 10000; omega, by show n * 10000 ≤ (_ : Int); omega⟩
theorem isa_vmay {x : AL} (h : IsA x) : x.v.may = true := by
  rcases h with ⟨s, rfl⟩ | ⟨n, h, rfl⟩
  · show vMay 2 0 s false 0 = true
    rw [vMay_iff]; exact ⟨by omega, by omega, .inr rfl, .inl rfl, .inr rfl, .inr rfl, fun h => by omega, fun h => by omega⟩
  · show vMay 1 (n * 10000) ⟨#[]⟩ false 0 = true
    rw [vMay_iff]; exact ⟨by omega, by omega, .inl rfl, .inr rfl, .inr rfl, .inr rfl, fun _ => by omega, fun h => by omega⟩
theorem isa_one {x : AL} (h : IsA x) : x.many = false ∧ x.es = [] ∧ rZero x = true ∧ ¬ x.v.t = 4 := by
  rcases h with ⟨s, rfl⟩ | ⟨n, h, rfl⟩
  · exact ⟨rfl, rfl, rfl, by show ¬ (2 : Int) = 4; omega⟩
  · exact ⟨rfl, rfl, rfl, by show ¬ (1 : Int) = 4; omega⟩
theorem isa_in {x : AL} (h : IsA x) (w : World) (B : Nat) : x.In w B := by
  have h1 := isa_ok h
  have h2 := (isa_one h).2.1
  refine ⟨h1, ?_, ?_, ?_⟩
  · rw [h2]; intro i c hi; simp at hi
  · rw [h2]; intro e he; cases he
  · rw [h2]; simp
theorem isa_may {x : AL} (h : IsA x) : argMay x = true := by
  obtain ⟨h1, h2, h3, _⟩ := isa_one h
  unfold argMay
  rw [h1, h2, h3, isa_vmay h]
  rfl
theorem isa_mays {l : List AL} (h : ∀ x ∈ l, IsA x) : MaysT l := ⟨fun x hx w _ => by
  have hm := isa_may (h x hx)
  rcases h x hx with ⟨s, rfl⟩ | ⟨n, hn, rfl⟩
  · have := tmay_single 2 0 s false 0 ⟨by omega, by omega⟩ 0 0 0 0 none 0 0 w
    rw [hm]
    refine this.mono ?_
    rintro e w1 ⟨rfl, hb⟩
    exact ⟨by rw [show vMay 2 0 s false 0 = true from isa_vmay (isa_t s)]; rfl, hb⟩
  · have := tmay_single 1 (n * 10000) ⟨#[]⟩ false 0 ⟨by omega, by omega⟩ 0 0 0 0 none 0 0 w
    rw [hm]
    refine this.mono ?_
    rintro e w1 ⟨rfl, hb⟩
    exact ⟨by rw [show vMay 1 (n * 10000) ⟨#[]⟩ false 0 = true from isa_vmay (isa_n n hn)]; rfl, hb⟩⟩
theorem tx_asT (s : ByteArray) : (txA s).v.asT = s := rfl
theorem wh_asN (n : Int) (h : -922337203685477 ≤ n ∧ n ≤ 922337203685477) : (whA n).v.asN = n * 10000 := by
  unfold VL.asN
  rw [if_pos (isa_vmay (isa_n n h))]
  rfl
theorem wh_whole (n : Int) (h : -922337203685477 ≤ n ∧ n ≤ 922337203685477) : wholeV (whA n).v.asN = n := by
  rw [wh_asN n h]
  unfold wholeV
  rw [if_pos ⟨by omega, Int.mul_tmod_left n 10000⟩]
  exact Int.mul_tdiv_cancel n (by omega)
theorem wh_e (n : Int) (h : -922337203685477 ≤ n ∧ n ≤ 922337203685477) : eOf (whA n) = none := by
  unfold eOf
  have : (whA n).v.asC = 0 := by
    unfold VL.asC
    rw [if_pos (isa_vmay (isa_n n h))]
    rfl
  rw [this, if_neg (by simp), wh_asN n h]
  unfold wholeB
  rw [if_pos (by
    have h1 : n * 10000 ≠ -9223372036854775808 := by omega
    have h2 : (n * 10000).tmod 10000 = 0 := Int.mul_tmod_left n 10000
    simp [h1, h2])]
theorem callT_of {name : ByteArray} {l : List AL} {text : Int} {r : VL} (h0 : 0 ≤ text ∧ text ≤ 1024) (h : ∀ x ∈ l, IsA x) (ht : takesT name l.length false = true) (hE : gE (tPairs name l) = none) : callT name l text r = r := by
  unfold callT
  rw [if_neg (by omega), if_neg (by
    simp only [Bool.not_eq_false, List.all_eq_true]
    exact fun x hx => isa_may (h x hx))]
  have hany : (l.any fun x => (true == x.many)) = false := by
    rw [List.any_eq_false]
    intro x hx
    rw [(isa_one (h x hx)).1]
    simp
  rw [hany, ht, if_neg (by simp)]
  unfold callTS
  rw [List.find?_eq_none.2 (by
    intro x hx
    simp [(isa_one (h x hx)).2.2.2])]
  simp only [hE]
/-- a call of the laws -/
theorem lcall_any {name : ByteArray} {l : List AL} {S : List ByteArray} {L : List Int} {text : Int} {r : VL} (hs : name.size ≤ 16) (hlen : l.length ≤ 3) (h0 : 0 ≤ text ∧ text ≤ 1024) (h : ∀ x ∈ l, IsA x) (ht : takesT name l.length false = true) (hE : gE (tPairs name l) = none) (hS : gS (tPairs name l) = S) (hL : gN (tPairs name l) = L) (hD : DoT name S L text r) {w : World} (hTab : Tab w) {v : Value} (hv : ArgsAt w v l) : Calls Tryz.prog 15 #[.string name, v, .int .i64 text] w fun e w' => e = .returned (.agg #[.int .i64 (r).t, .int .i64 (r).n, .string (r).s, .bool (r).b, .int .i64 (r).c]) ∧ Below w.heap.size w w' := by
  obtain ⟨A, cap, rfl, hR⟩ := hv
  have := tcall_any name (by omega) l (by omega) text h0 r (isa_mays h) (fun _ _ _ => by rw [hS, hL]; exact hD) w hTab A cap hR (fun x hx => isa_in (h x hx) w _)
  rwa [callT_of h0 h ht hE] at this
theorem kd_MID : tKd ⟨#[77, 73, 68]⟩ = ⟨#[115, 110, 110]⟩ := by kernel_rfl
theorem kd_LEN : tKd ⟨#[76, 69, 78]⟩ = ⟨#[115]⟩ := by kernel_rfl
set_option maxRecDepth 100000 in
theorem lcall_MID (s : ByteArray) (hs : s.size ≤ 1024) (a b : Int) (ha : -922337203685477 ≤ a ∧ a ≤ 922337203685477) (hb : -922337203685477 ≤ b ∧ b ≤ 922337203685477) (h1 : 1 ≤ a) (h2 : 0 ≤ b) (text : Int) (h0 : 0 ≤ text ∧ text ≤ 1024) {w : World} (hTab : Tab w) {v : Value} (hv : ArgsAt w v [txA s, whA a, whA b]) : Calls Tryz.prog 15 #[.string ⟨#[77, 73, 68]⟩, v, .int .i64 text] w fun e w' => e = .returned (.agg #[.int .i64 (toldT text (cutD (midD s a) b)).t, .int .i64 (toldT text (cutD (midD s a) b)).n, .string (toldT text (cutD (midD s a) b)).s, .bool (toldT text (cutD (midD s a) b)).b, .int .i64 (toldT text (cutD (midD s a) b)).c]) ∧ Below w.heap.size w w' :=
  lcall_any (by decide) (by simp) h0 (by
    intro x hx
    simp only [List.mem_cons, List.not_mem_nil, or_false] at hx
    rcases hx with rfl | rfl | rfl
    · exact isa_t s
    · exact isa_n a ha
    · exact isa_n b hb) (by kernel_rfl) (by
    unfold tPairs gE; rw [kd_MID]
    simp [wh_e a ha, wh_e b hb]) (by
    unfold tPairs gS; rw [kd_MID]
    simp [tx_asT]) (by
    unfold tPairs gN; rw [kd_MID]
    simp [wh_whole a ha, wh_whole b hb]) (at_MID s hs a b hb ha h1 h2 text) hTab hv
set_option maxRecDepth 100000 in
theorem lcall_LEN (s : ByteArray) (hs : s.size ≤ 1024) (text : Int) (h0 : 0 ≤ text ∧ text ≤ 1024) {w : World} (hTab : Tab w) {v : Value} (hv : ArgsAt w v [txA s]) : Calls Tryz.prog 15 #[.string ⟨#[76, 69, 78]⟩, v, .int .i64 text] w fun e w' => e = .returned (.agg #[.int .i64 (numL ((s.size : Int) * 10000)).t, .int .i64 (numL ((s.size : Int) * 10000)).n, .string (numL ((s.size : Int) * 10000)).s, .bool (numL ((s.size : Int) * 10000)).b, .int .i64 (numL ((s.size : Int) * 10000)).c]) ∧ Below w.heap.size w w' :=
  lcall_any (by decide) (by simp) h0 (by
    intro x hx
    simp only [List.mem_cons, List.not_mem_nil, or_false] at hx
    subst hx
    exact isa_t s) (by kernel_rfl) (by
    unfold tPairs gE; rw [kd_LEN]
    simp) (by
    unfold tPairs gS; rw [kd_LEN]
    simp [tx_asT]) (by
    unfold tPairs gN; rw [kd_LEN]
    simp) (at_LEN s hs text) hTab hv
end Go.Proofs.YtaomlgpakbjegaaGreatDoor
