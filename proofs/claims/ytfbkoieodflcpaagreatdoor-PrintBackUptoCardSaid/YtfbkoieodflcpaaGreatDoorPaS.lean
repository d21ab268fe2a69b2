/-
  parse.Parse.
-/
import Derived.Test.YtfbkoieodflcpaaGreatDoorMg3
import Derived.Test.YtfbkoieodflcpaaGreatDoorRows
import Derived.Test.YtfbkoieodflcpaaGreatDoorMg0
import Derived.Test.YtfbkoieodflcpaaGreatDoorProg
import Derived.Test.YtfbkoieodflcpaaGreatDoorShelf
import Derived.Test.YtfbkoieodflcpaaGreatDoorMg4
import Derived.Test.YtfbkoieodflcpaaGreatDoorAddrC
import Derived.Test.YtfbkoieodflcpaaGreatDoorMg6
import Derived.Test.YtfbkoieodflcpaaGreatDoorValA
import Derived.Test.YtfbkoieodflcpaaGreatDoorValB
import Derived.Test.YtfbkoieodflcpaaGreatDoorMg9
import Derived.Test.YtfbkoieodflcpaaGreatDoorMg10
import Derived.Test.YtfbkoieodflcpaaGreatDoorPaP
import Derived.Test.YtfbkoieodflcpaaGreatDoorPaF
import Derived.Test.YtfbkoieodflcpaaGreatDoorPaW
import Derived.Test.YtfbkoieodflcpaaGreatDoorPaX
import Derived.Test.YtfbkoieodflcpaaGreatDoorPaY
import Derived.Test.YtfbkoieodflcpaaGreatDoorMg22
import Derived.Test.YtfbkoieodflcpaaGreatDoorPaZ
import Derived.Test.YtfbkoieodflcpaaGreatDoorMg42
import Derived.Test.YtfbkoieodflcpaaGreatDoorPaC
import Derived.Test.YtfbkoieodflcpaaGreatDoorPaK
import Derived.Test.YtfbkoieodflcpaaGreatDoorPaI
import Derived.Test.YtfbkoieodflcpaaGreatDoorPaQ
import Derived.Test.YtfbkoieodflcpaaGreatDoorPaE
import Derived.Test.YtfbkoieodflcpaaGreatDoorMg26
import Derived.Test.YtfbkoieodflcpaaGreatDoorMg11
import Derived.Test.YtfbkoieodflcpaaGreatDoorLexWd
import Derived.Test.YtfbkoieodflcpaaGreatDoorLexS
import Derived.Test.YtfbkoieodflcpaaGreatDoorDParse
import Derived.Test.YtfbkoieodflcpaaGreatDoorLexF
import Derived.Test.YtfbkoieodflcpaaGreatDoorMg15
import Derived.Test.YtfbkoieodflcpaaGreatDoorLexI
import Derived.Test.YtfbkoieodflcpaaGreatDoorPaO
import Derived.Test.YtfbkoieodflcpaaGreatDoorMg31
import Derived.BigRegion
import Derived.Defers
import Derived.Recover
import Derived.WalkSpells
import Derived.WalkLawsBesides
import Derived.StillTactics
import Derived.Laws.Pointers
import Derived.Deep.RegionHeld3
import Derived.Deep.QuietTactic
import Derived.BigQuiet
import Derived.RowKit3
import Derived.Lib.Hide
import Derived.Lib.OthersKept
import Derived.OwnWalk
import Derived.Lib.IndexLaws
import Derived.Lib.ItoaMem
import Derived.Lib.TrimByte
import Derived.Lib.SlTrimSet
import Derived.Lib.ParseIntB
import Derived.WalkKit
import Derived.ProofKit
import Derived.OpenShut
import Derived.Carry
import Derived.ChangeSame
import Derived.Deep.Draws
import Derived.Shelf.Strings.Builder1
import Derived.Shelf.Strings.Builder2
import Derived.Shelf.Strings.Trim
import Derived.Shelf.Small.Utf8
import Derived.Shelf.Small.Strs
import Derived.Shelf.Small.Wraps
import Derived.Shelf.Strings.BuilderF
import Derived.Shelf.Strings.BuilderK
import Derived.Shelf.Utf8.RuneCount
import Derived.Shelf.Strconv.Itoa0
import Derived.Shelf.Strconv.Itoa1
import Derived.Shelf.LaysM
import Derived.Shelf.Strconv.Itoa2
import Derived.Shelf.Strconv.Itoa3
import Derived.Ground.MpProg
import Derived.Shelf.Pu.ParseUintPublic10
import Derived.Shelf.Strings.Search1
import Derived.Shelf.Strings.Search2
import Derived.Shelf.Strings.Search3
import Derived.Shelf.Strings.Cut
import Derived.Shelf.Strings.Count
import Derived.Shelf.Strings.Shaped
import Derived.Shelf.Strings.Prefix
import Derived.Shelf.Strings.Split
import Derived.Shelf.Strings.Replace
import Derived.Shelf.Strings.SplitShaped
import Derived.Shelf.Unicode.Decode
import Derived.Shelf.Strings.Runes
import Derived.Shelf.Strings.RuneCount
import Derived.Shelf.Strings.AsciiSet
import Derived.Shelf.Unicode.DecodeSlow
import Derived.Shelf.Unicode.DecodeAny
import Derived.Shelf.Unicode.DecodeLast
import Derived.Lib.ItoaNum
import Derived.Maps.OwnSet
import Derived.Maps.AppendAt
import Derived.Deep.RegionLaw
import Derived.Deep.AppendLies
import Derived.ScopeJumps
import Derived.WalkMore
import Derived.Shelf.Strings.SlTrimAscii
import Derived.Lib.SmallJoins
import Derived.RangeFuncBox
import Derived.RangeFuncNested
import Derived.RangeFuncLeaves
import Derived.Shelf.Abstract
import Derived.OwnWalkIn
import Derived.TacticsInMore
import Derived.LoopNIn
import Derived.LoopIn
import Derived.Maps.OwnIn
namespace Go.Proofs.YtfbkoieodflcpaaGreatDoor
open Go.RowKit

theorem assert_wrong (v : Value) (w : World) : Sem.run Tryz.prog (Instr.typeAssert (.iface 71 v) 20 71 true) w = .ok (.tuple #[v, .bool true]) w := by kernel_rfl
theorem assert_none (w : World) : Sem.run Tryz.prog (Instr.typeAssert .nilIface 20 71 true) w = .ok (.tuple #[.agg #[.int .i64 0, .int .i64 0], .bool false]) w := by kernel_rfl
theorem catch_idle (p4 p5 p6 : Addr) (w : World) : CallsD Tryz.prog 21 #[.pointer (some p4), .pointer (some p5), .pointer (some p6)] .returning w fun e u' w' => e = .returned (.tuple #[]) ∧ u' = .returning ∧ Below w.heap.size w w' := by
  have hN := assert_none
  refine callsD_of_wpS Tryz.func21 rfl fun c₀ cs hu => ?_
  apply wpS_seq
  apply wpS_region
  simp [wpOpsS, go_sem, recoverD, hu, Tryz.ntmps21, Exit.thenS, hN]
  apply wpS_seq
  apply wpS_region
  simp [wpOpsS, go_sem, Exit.thenS]
  refine wpS_cond (t := false) (by simp [Act.eval, Array.replicate]) ?_
  simp only [Bool.false_eq_true, if_false]
  refine wpS_of_wp (wp_skip ?_)
  cases c₀
  simp_all [bodyPostS, results, Tryz.results21]
  exact (Below.refl _ _).alloc (Nat.le_refl _) _
theorem catch_bad (b4 b5 b6 : Nat) (er a : Int) (older : List PanicEntry) (w : World) (h4 : b4 < w.heap.size) (h5 : b5 < w.heap.size) (h6 : b6 < w.heap.size) (h45 : b4 ≠ b5) (h46 : b4 ≠ b6) (h56 : b5 ≠ b6) (v4 v5 v6 : Value) (c4 : w.cell? ⟨b4, 0, none⟩ = some v4) (c5 : w.cell? ⟨b5, 0, none⟩ = some v5) (c6 : w.cell? ⟨b6, 0, none⟩ = some v6) (f4 : w.frozen? ⟨b4, 0, none⟩ = false) (f5 : w.frozen? ⟨b5, 0, none⟩ = false) (f6 : w.frozen? ⟨b6, 0, none⟩ = false) :
    CallsD Tryz.prog 21 #[.pointer (some ⟨b4, 0, none⟩), .pointer (some ⟨b5, 0, none⟩), .pointer (some ⟨b6, 0, none⟩)] (.panicking ({ v := .iface 71 (.agg #[.int .i64 er, .int .i64 a]), recovered := false } :: older)) w fun e u' w' =>
      e = .returned (.tuple #[]) ∧ u' = .panicking ({ v := .iface 71 (.agg #[.int .i64 er, .int .i64 a]), recovered := true } :: older) ∧ w'.cell? ⟨b4, 0, none⟩ = some (.slice none 0 0) ∧ w'.cell? ⟨b5, 0, none⟩ = some (.int .i64 er) ∧ w'.cell? ⟨b6, 0, none⟩ = some (.int .i64 a) ∧ (∀ B, B ≤ b4 → B ≤ b5 → B ≤ b6 → Below B w w') := by
  have hY := assert_wrong
  refine callsD_of_wpS Tryz.func21 rfl fun c₀ cs hu => ?_
  apply wpS_seq
  apply wpS_region
  simp [wpOpsS, go_sem, recoverD, hu, Tryz.ntmps21, Exit.thenS, hY]
  apply wpS_seq
  apply wpS_region
  simp [wpOpsS, go_sem, Exit.thenS]
  refine wpS_cond (t := true) (by simp [Act.eval, Array.replicate]) ?_
  simp only [if_true]
  refine wpS_of_wp ?_
  have hb1 : Below w.heap.size w (w.alloc (.cells #[.int .i64 er, .int .i64 a] 71)) := (Below.refl _ _).alloc (Nat.le_refl _) _
  have hh := heap_alloc_new w (.cells #[.int .i64 er, .int .i64 a] 71)
  have q0 : (w.alloc (.cells #[.int .i64 er, .int .i64 a] 71)).cell? ⟨w.heap.size, 0, none⟩ = some (.int .i64 er) := by rw [cell_of_row _ w.heap.size 0 _ _ _ hh]; rfl
  have q1 : (w.alloc (.cells #[.int .i64 er, .int .i64 a] 71)).cell? ⟨w.heap.size, 1, none⟩ = some (.int .i64 a) := by rw [cell_of_row _ w.heap.size 1 _ _ _ hh]; rfl
  have d4 := (hb1.cell (p := ⟨b4, 0, none⟩) h4).trans c4
  have d5 := (hb1.cell (p := ⟨b5, 0, none⟩) h5).trans c5
  have d6 := (hb1.cell (p := ⟨b6, 0, none⟩) h6).trans c6
  have g4 := (hb1.frozen (p := ⟨b4, 0, none⟩) h4).trans f4
  have g5 := (hb1.frozen (p := ⟨b5, 0, none⟩) h5).trans f5
  have g6 := (hb1.frozen (p := ⟨b6, 0, none⟩) h6).trans f6
  have hz1 : (w.alloc (.cells #[.int .i64 er, .int .i64 a] 71)).heap.size = w.heap.size + 1 := by simp
  generalize (w.alloc (.cells #[.int .i64 er, .int .i64 a] 71)) = W at *
  have n4 : w.heap.size ≠ b4 := by omega
  have n5 : w.heap.size ≠ b5 := by omega
  have n6 : w.heap.size ≠ b6 := by omega
  have hbx : ∀ B, B ≤ b4 → B ≤ b5 → B ≤ b6 → Below B w W := fun B h1 _ _ => hb1.mono (by omega)
  clear hh c4 c5 c6 f4 f5 f6 hb1
  simp only [Array.replicate_succ, Array.replicate_zero, List.push_toArray, List.append_toArray, List.nil_append, List.cons_append, List.setIfInBounds_toArray, List.set_cons_zero, List.set_cons_succ]
  go_region
  cases c₀
  simp only at hu
  subst hu
  refine ⟨rfl, _, rfl, _, results_none rfl _ _ _, rfl, rfl, ?_, ?_, ?_, fun B h1 h2 h3 => ?_⟩
  · simp [go_sem, d4]
  · simp [go_sem, d5]
  · simp [go_sem, d6]
  · exact ((((hbx B h1 h2 h3).setCell (p := ⟨b4, 0, none⟩) h1 _).setCell (p := ⟨b5, 0, none⟩) h2 _).setCell (p := ⟨b6, 0, none⟩) h3 _).drew
/-- how a reading ends -/
def endP : PR → PR
  | .bad e a => .bad e a
  | .ok s => if s.now.kind = 0 then .ok s else s.fail
theorem parse_end (tb : Tb) (x : Tok) (r : List Tok) (q : PR) (hq : px tb (8 * r.length + 16) (.lev 0) ⟨x, r, 0, []⟩ = some q) : parseT tb (x :: r) = endP q := by
  simp only [parseT, hq]
  cases q <;> rfl
theorem eq_niltab (v : Value) (w : World) : (binOp BinOp.eql 69 (.iface 31 v) .nilIface).run Tryz.prog w = .ok (.bool false) w := by kernel_rfl
/-- what Parse answers -/
def PAns (w : World) (x : PR) (e : Ending) (w' : World) : Prop := Below w.heap.size w w' ∧ match x with
  | .ok s => ∃ N, e = .returned (.tuple #[.agg #[N], .int .i64 0, .int .i64 0]) ∧ w'.ownsRow w.heap.size 47 15 N s.nodes.length (ndRow s.nodes)
  | .bad er a => e = .returned (.tuple #[.agg #[.slice none 0 0], .int .i64 er, .int .i64 a])
set_option maxHeartbeats 2000000 in
theorem pparse (l : List UInt8) (hl : l.length ≤ 9999999000) (tv : TV) (w : World) (hT : FunsAt tv w.heap.size w) : Calls Tryz.prog 8 #[.string ⟨l.toArray⟩, tv.v] w fun e w' => PAns w (parseT (tbOf tv.l) (lexL l)) e w' := by
  have hnt := eq_niltab tv.s
  have hmf : ∀ (fn : Fn) (first cap : Array Value) (w : World), (Instr.makeFunc fn first cap).run Tryz.prog w = .ok (.func fn first cap) w := fun _ _ _ _ => rfl
  have CL := fun w => lex_any l w
  show Calls Tryz.prog 8 #[.string ⟨l.toArray⟩, .iface 31 tv.s] w fun e w' => PAns w (parseT (tbOf tv.l) (lexL l)) e w'
  go_enter_defers Tryz.func8, Tryz.ntmps8
  go_wp2_with fail
  refine (CL _).mono ?_
  rintro e w1 ⟨rfl, hw1⟩
  simp only [World.size_alloc] at hw1 ⊢
  have hz : w1.heap.size = w.heap.size + 4 := by rw [hw1]; simp
  have hB1 : Below w.heap.size w w1 := by rw [hw1]; exact ((((Below.refl _ _).alloc (Nat.le_refl _) _).alloc (by first | (simp; done) | (simp; omega)) _).alloc (by first | (simp; done) | (simp; omega)) _).alloc (by first | (simp; done) | (simp; omega)) _
  have h4 : w1.heap[w.heap.size]? = some (.cells #[.slice none 0 0] 24 (0, 0)) := by
    rw [hw1]; exact (Lib.alloc_old _ _ _ (by first | (simp; done) | (simp; omega))).trans ((Lib.alloc_old _ _ _ (by first | (simp; done) | (simp; omega))).trans ((Lib.alloc_old _ _ _ (by first | (simp; done) | (simp; omega))).trans (heap_alloc_new _ _)))
  have h5 : w1.heap[w.heap.size + 1]? = some (.cells #[.int .i64 0] 25 (0, 0)) := by
    have := heap_alloc_new (w.alloc (.cells #[.slice none 0 0] 24)) (.cells #[.int .i64 0] 25)
    simp only [World.size_alloc] at this
    rw [hw1]; exact (Lib.alloc_old _ _ _ (by first | (simp; done) | (simp; omega))).trans ((Lib.alloc_old _ _ _ (by first | (simp; done) | (simp; omega))).trans this)
  have h6 : w1.heap[w.heap.size + 1 + 1]? = some (.cells #[.int .i64 0] 3 (0, 0)) := by
    have := heap_alloc_new ((w.alloc (.cells #[.slice none 0 0] 24)).alloc (.cells #[.int .i64 0] 25)) (.cells #[.int .i64 0] 3)
    simp only [World.size_alloc] at this
    rw [hw1]; exact (Lib.alloc_old _ _ _ (by first | (simp; done) | (simp; omega))).trans this
  have h7 : w1.heap[w.heap.size + 1 + 1 + 1]? = some (.cells #[.string ⟨l.toArray⟩] 9 (0, 0)) := by
    have := heap_alloc_new (((w.alloc (.cells #[.slice none 0 0] 24)).alloc (.cells #[.int .i64 0] 25)).alloc (.cells #[.int .i64 0] 3)) (.cells #[.string ⟨l.toArray⟩] 9)
    simp only [World.size_alloc] at this
    rw [hw1]; exact this
  clear hw1 CL
  have CC := tcollect l (by omega) (w.heap.size + 1 + 1 + 1) w1 h7
  have hln := lexL_len l
  have hne := (lexL_laws l).ne
  have hlast := (lexL_laws l).last
  obtain ⟨x, r, hxr⟩ : ∃ x r, lexL l = x :: r := by
    cases hl : lexL l with
    | nil => rw [hl] at hne; simp at hne
    | cons x r => exact ⟨x, r, rfl⟩
  rw [hxr] at CC hln hne hlast
  have hts := Lib.hid hxr
  clear hxr
  go_wp2_with fail
  refine CC.mono ?_
  rintro e w2 ⟨⟨v, rfl, hown⟩, hb2⟩
  clear CC h7
  obtain ⟨A, cap, rfl, hrd⟩ := own_rdt hown
  have hcap := own_cap hown
  have hz2 := hb2.size
  have hwf1 : (⟨x, r, 0, []⟩ : PS).wf := by
    rcases List.eq_nil_or_concat (x :: r) with h | ⟨l', y, h⟩
    · cases h
    · have hx : (x :: r)[l'.length]? = some y := by rw [h]; simp
      have hd := hlast l'.length y hx
      refine ⟨l', y, by simpa using h, ?_⟩
      rw [hd, h]; simp
  obtain ⟨q, hq, _⟩ := px_total (tbOf tv.l) (8 * r.length + 16) (.lev 0) ⟨x, r, 0, []⟩ hwf1 (Nat.zero_le 4) (by simp [Md.rank])
  have hwf0 : (⟨tokK 0, x :: r, 0, []⟩ : PS).wf := by
    obtain ⟨l', y, e, hy⟩ := hwf1
    exact ⟨tokK 0 :: l', y, by simp only at e; rw [e]; rfl, hy⟩
  have hb3 : Below w2.heap.size w2 (w2.alloc (.cells #[.slice A (r.length + 1) cap, .int .i64 0, .int .i64 0, .int .i64 0, .string ⟨#[]⟩, .int .i64 0, .int .i64 0, .int .i64 0, .int .i64 0, .int .i64 0, .int .i64 0, .int .i64 0, .iface 31 tv.s, .int .i64 0, .slice none 0 0] 82)) := (Below.refl _ _).alloc (Nat.le_refl _) _
  have hb12 : Below w1.heap.size w1 (w2.alloc (.cells #[.slice A (r.length + 1) cap, .int .i64 0, .int .i64 0, .int .i64 0, .string ⟨#[]⟩, .int .i64 0, .int .i64 0, .int .i64 0, .int .i64 0, .int .i64 0, .int .i64 0, .int .i64 0, .iface 31 tv.s, .int .i64 0, .slice none 0 0] 82)) := hb2.trans (hb3.mono hz2)
  have hR : RSt tv w2.heap.size (w2.alloc (.cells #[.slice A (r.length + 1) cap, .int .i64 0, .int .i64 0, .int .i64 0, .string ⟨#[]⟩, .int .i64 0, .int .i64 0, .int .i64 0, .int .i64 0, .int .i64 0, .int .i64 0, .int .i64 0, .iface 31 tv.s, .int .i64 0, .slice none 0 0] 82)) ⟨tokK 0, x :: r, 0, []⟩ :=
    ⟨A, cap, .slice none 0 0, heap_alloc_new w2 _, (hrd.below hb3), hcap, World.ownsRow_nil _ _ _ _, by simp, by simp, by simp, by simp at hln ⊢; omega, hwf0, (hT.below (hB1.trans (hb12.mono (by omega)))).mono (by omega)⟩
  have CS := pstep tv w2.heap.size ⟨tokK 0, x :: r, 0, []⟩ _ hR
  have k4 := (hb12.block _ (by omega)).trans h4
  have k5 := (hb12.block _ (by omega)).trans h5
  have k6 := (hb12.block _ (by omega)).trans h6
  have hB3 := hB1.trans (hb12.mono (by omega))
  have hz3 : w2.heap.size < (w2.alloc (.cells #[.slice A (r.length + 1) cap, .int .i64 0, .int .i64 0, .int .i64 0, .string ⟨#[]⟩, .int .i64 0, .int .i64 0, .int .i64 0, .int .i64 0, .int .i64 0, .int .i64 0, .int .i64 0, .iface 31 tv.s, .int .i64 0, .slice none 0 0] 82)).heap.size := by simp
  have hP := parse_end (tbOf tv.l) x r q hq
  clear hlast hne hown hrd hwf0 hcap
  go_wp2_with fail
  refine CS.mono ?_
  rintro e w3 ⟨rfl, hR3, kk3⟩
  have e4 := kk3.1.block w.heap.size (by omega)
  have e5 := kk3.1.block (w.heap.size + 1) (by omega)
  have e6 := kk3.1.block (w.heap.size + 1 + 1) (by omega)
  have CE := pexpr (tbOf tv.l) tv rfl w2.heap.size _ ⟨x, r, 0, []⟩ q w3 hR3 hq
  have k4' := e4.trans k4
  have k5' := e5.trans k5
  have k6' := e6.trans k6
  have hB4 := hB3.trans (kk3.1.mono (by omega))
  clear CS e4 e5 e6 k4 k5 k6 hB3 hR hq hwf1
  go_wp2_with fail
  refine CE.mono ?_
  rintro e w4 ⟨kk4, hq4⟩
  have m4 := (kk4.1.block w.heap.size (by omega)).trans k4'
  have m5 := (kk4.1.block (w.heap.size + 1) (by omega)).trans k5'
  have m6 := (kk4.1.block (w.heap.size + 1 + 1) (by omega)).trans k6'
  have hB5 := hB4.trans (kk4.1.mono (by omega))
  have hCB : ∀ (W : World), W.heap[w.heap.size]? = some (.cells #[.slice none 0 0] 24 (0, 0)) → W.heap[w.heap.size + 1]? = some (.cells #[.int .i64 0] 25 (0, 0)) → W.heap[w.heap.size + 1 + 1]? = some (.cells #[.int .i64 0] 3 (0, 0)) → ∀ er a, CallsD Tryz.prog 21 #[.pointer (some ⟨w.heap.size, 0, none⟩), .pointer (some ⟨w.heap.size + 1, 0, none⟩), .pointer (some ⟨w.heap.size + 1 + 1, 0, none⟩)] (.panicking ({ v := .iface 71 (.agg #[.int .i64 er, .int .i64 a]), recovered := false } :: [])) W fun e u' w' =>
      e = .returned (.tuple #[]) ∧ u' = .panicking ({ v := .iface 71 (.agg #[.int .i64 er, .int .i64 a]), recovered := true } :: []) ∧ w'.cell? ⟨w.heap.size, 0, none⟩ = some (.slice none 0 0) ∧ w'.cell? ⟨w.heap.size + 1, 0, none⟩ = some (.int .i64 er) ∧ w'.cell? ⟨w.heap.size + 1 + 1, 0, none⟩ = some (.int .i64 a) ∧ (∀ B, B ≤ w.heap.size → B ≤ w.heap.size + 1 → B ≤ w.heap.size + 1 + 1 → Below B W w') := fun W m4 m5 m6 er a =>
    catch_bad w.heap.size (w.heap.size + 1) (w.heap.size + 1 + 1) er a [] W (heap_lt m4) (heap_lt m5) (heap_lt m6) (by omega) (by omega) (by omega) (.slice none 0 0) (.int .i64 0) (.int .i64 0)
      (by rw [cell_of_row _ w.heap.size 0 _ _ _ m4]; rfl) (by rw [cell_of_row _ (w.heap.size + 1) 0 _ _ _ m5]; rfl) (by rw [cell_of_row _ (w.heap.size + 1 + 1) 0 _ _ _ m6]; rfl)
      (by simp [World.frozen?, m4]) (by simp [World.frozen?, m5]) (by simp [World.frozen?, m6])
  clear CE kk3 kk4 k4' k5' k6' hB4
  have hPa : Hid (∀ e w', PAns w (endP q) e w' → PAns w (parseT (tbOf tv.l) (lexL l)) e w') := Lib.hid fun e w' h => by rw [hts.out, hP]; exact h
  clear hP hts
  cases q with
  | bad er a =>
    obtain rfl := hq4
    dsimp only
    refine leaves_cons (f := 21) (args := #[.pointer (some ⟨w.heap.size, 0, none⟩), .pointer (some ⟨w.heap.size + 1, 0, none⟩), .pointer (some ⟨w.heap.size + 1 + 1, 0, none⟩)]) (by simp) (by simp [go_sem]) ?_
    refine (hCB w4 m4 m5 m6 er a).mono ?_
    rintro e u' w5 ⟨rfl, rfl, y4, y5, y6, hb⟩
    have hBf := hB5.trans (hb w.heap.size (by omega) (by omega) (by omega))
    simp [Leaves, settle, results, Tryz.results8, go_sem, y4, y5, y6]
    exact hPa.out _ _ ⟨hBf, rfl⟩
  | ok s =>
    obtain ⟨rfl, hR4⟩ := hq4
    have CF := pfail tv w2.heap.size s w4 hR4
    have hRS : ∃ A cap N, RS tv w2.heap.size w4 s A cap N := hR4
    obtain ⟨A8, cap8, N8, h8⟩ := hRS
    have c1 : w4.cell? ⟨w2.heap.size, 1, none⟩ = some (.int .i64 s.now.kind) := by rw [cell_of_row w4 w2.heap.size 1 _ _ _ h8.blk]; rfl
    have c14 : w4.cell? ⟨w2.heap.size, 14, none⟩ = some N8 := by rw [cell_of_row w4 w2.heap.size 14 _ _ _ h8.blk]; rfl
    have hnod := h8.nodes
    obtain ⟨A9, cap9, rfl⟩ := ownsRow_form' hnod
    have hlt8 := h8.lt
    clear h8
    by_cases hk : s.now.kind = 0
    · have hk0 : (s.now.kind != 0) = false := by simp [hk]
      have hPb : Hid (∀ e w', PAns w (.ok s) e w' → PAns w (parseT (tbOf tv.l) (lexL l)) e w') := Lib.hid fun e w' h => hPa.out e w' (by rw [show endP (.ok s) = .ok s from if_pos hk]; exact h)
      have z4 : w4.cell? ⟨w.heap.size, 0, none⟩ = some (.slice none 0 0) := by rw [cell_of_row _ w.heap.size 0 _ _ _ m4]; rfl
      have z5 : w4.cell? ⟨w.heap.size + 1, 0, none⟩ = some (.int .i64 0) := by rw [cell_of_row _ (w.heap.size + 1) 0 _ _ _ m5]; rfl
      have z6 : w4.cell? ⟨w.heap.size + 1 + 1, 0, none⟩ = some (.int .i64 0) := by rw [cell_of_row _ (w.heap.size + 1 + 1) 0 _ _ _ m6]; rfl
      have f4 : w4.frozen? ⟨w.heap.size, 0, none⟩ = false := by simp [World.frozen?, m4]
      have f5 : w4.frozen? ⟨w.heap.size + 1, 0, none⟩ = false := by simp [World.frozen?, m5]
      have f6 : w4.frozen? ⟨w.heap.size + 1 + 1, 0, none⟩ = false := by simp [World.frozen?, m6]
      have hne1 : w.heap.size ≠ w2.heap.size := by omega
      have hne2 : w.heap.size + 1 ≠ w2.heap.size := by omega
      have hne3 : w.heap.size + 1 + 1 ≠ w2.heap.size := by omega
      clear hk CF hPa hCB
      go_wp2
      refine leaves_cons (f := 21) (args := #[.pointer (some ⟨w.heap.size, 0, none⟩), .pointer (some ⟨w.heap.size + 1, 0, none⟩), .pointer (some ⟨w.heap.size + 1 + 1, 0, none⟩)]) (by simp) (by simp [go_sem]) ?_
      refine (catch_idle _ _ _ _).mono ?_
      rintro e u' w6 ⟨rfl, rfl, hb6⟩
      have hz6 : (((w4.setCell ⟨w.heap.size, 0, none⟩ (.slice A9 s.nodes.length cap9)).setCell ⟨w.heap.size + 1, 0, none⟩ (.int .i64 0)).setCell ⟨w.heap.size + 1 + 1, 0, none⟩ (.int .i64 0)).heap.size = w4.heap.size := by simp
      have hb5 : Below w.heap.size w4 (((w4.setCell ⟨w.heap.size, 0, none⟩ (.slice A9 s.nodes.length cap9)).setCell ⟨w.heap.size + 1, 0, none⟩ (.int .i64 0)).setCell ⟨w.heap.size + 1 + 1, 0, none⟩ (.int .i64 0)) := (((Below.refl _ _).setCell (p := ⟨w.heap.size, 0, none⟩) (Nat.le_refl _) _).setCell (p := ⟨w.heap.size + 1, 0, none⟩) (Nat.le_succ _) _).setCell (p := ⟨w.heap.size + 1 + 1, 0, none⟩) (by dsimp only; omega) _
      have y4 : w6.cell? ⟨w.heap.size, 0, none⟩ = some (.slice A9 s.nodes.length cap9) := (hb6.cell (p := ⟨w.heap.size, 0, none⟩) (by show w.heap.size < _; rw [hz6]; omega)).trans (by simp [go_sem, z4])
      have y5 : w6.cell? ⟨w.heap.size + 1, 0, none⟩ = some (.int .i64 0) := (hb6.cell (p := ⟨w.heap.size + 1, 0, none⟩) (by show w.heap.size + 1 < _; rw [hz6]; omega)).trans (by simp [go_sem, z5])
      have y6 : w6.cell? ⟨w.heap.size + 1 + 1, 0, none⟩ = some (.int .i64 0) := (hb6.cell (p := ⟨w.heap.size + 1 + 1, 0, none⟩) (by show w.heap.size + 1 + 1 < _; rw [hz6]; omega)).trans (by simp [go_sem, z6])
      have ho5 := ownsRow_below (ownsRow_setCell_below (ownsRow_setCell_below (ownsRow_setCell_below hnod (a := ⟨w.heap.size, 0, none⟩) (by dsimp only; omega) (.slice A9 s.nodes.length cap9)) (a := ⟨w.heap.size + 1, 0, none⟩) (by dsimp only; omega) (.int .i64 0)) (a := ⟨w.heap.size + 1 + 1, 0, none⟩) (by dsimp only; omega) (.int .i64 0)) hb6
      have hBf := (hB5.trans hb5).trans (hb6.mono (by rw [hz6]; omega))
      simp [Leaves, settle, results, Tryz.results8, go_sem, y4, y5, y6]
      exact hPb.out _ _ ⟨hBf, _, rfl, ownsRow_base ho5 (by omega)⟩
    · have hk0 : (s.now.kind != 0) = true := by simp [hk]
      have hPb : Hid (∀ e w', PAns w s.fail e w' → PAns w (parseT (tbOf tv.l) (lexL l)) e w') := Lib.hid fun e w' h => hPa.out e w' (by rw [show endP (.ok s) = s.fail from if_neg hk]; exact h)
      clear hPa hk
      go_wp2_with fail
      refine CF.mono ?_
      rintro e w5 ⟨k5, rfl⟩
      dsimp only
      refine leaves_cons (f := 21) (args := #[.pointer (some ⟨w.heap.size, 0, none⟩), .pointer (some ⟨w.heap.size + 1, 0, none⟩), .pointer (some ⟨w.heap.size + 1 + 1, 0, none⟩)]) (by simp) (by simp [go_sem]) ?_
      refine (hCB w5 ((k5.1.block w.heap.size (by omega)).trans m4) ((k5.1.block (w.heap.size + 1) (by omega)).trans m5) ((k5.1.block (w.heap.size + 1 + 1) (by omega)).trans m6) _ _).mono ?_
      rintro e u' w6 ⟨rfl, rfl, y4, y5, y6, hb⟩
      have hBf := (hB5.trans (k5.1.mono (by omega))).trans (hb w.heap.size (by omega) (by omega) (by omega))
      simp [Leaves, settle, results, Tryz.results8, go_sem, y4, y5, y6]
      exact hPb.out _ _ ⟨hBf, rfl⟩
end Go.Proofs.YtfbkoieodflcpaaGreatDoor
