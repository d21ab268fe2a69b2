/-
  Arguments: may they be? (texts, joint); oriellaw09.TextsCalls; The law TextsCalls returns true for every input of bulk at most 1048576; the listed variables of the library are as the program's text lays them (the card ties that).
-/
import Derived.Test.YtgmhifafbebjfaaGreatDoorR9G
import Derived.Test.YtgmhifafbebjfaaGreatDoorMg49
import Derived.Deep.DeepWitnessRowRef
namespace Go.Proofs.YtgmhifafbebjfaaGreatDoor
open Go.RowKit

theorem tmay_any (x : AL) (w : World) (hin : x.In w w.heap.size) : Calls Tryz.prog 12 #[.agg #[.bool x.many, .int .i64 x.v.t, .int .i64 x.v.n, .string x.v.s, .bool x.v.b, .int .i64 x.v.c, .int .i64 x.t, .int .i64 x.l, .int .i64 x.b, .int .i64 x.r, .slice x.A x.es.length x.cap]] w fun e w' => e = .returned (.bool (argMay x)) ∧ Below w.heap.size w w' := by
  obtain ⟨h1, h2, h3, h4⟩ := hin
  obtain ⟨m, ⟨t, n, s, b, c⟩, rt, rl, rb, rr, A, cap, es⟩ := x
  have hn : -9223372036854775808 ≤ n ∧ n ≤ 9223372036854775807 := h1
  unfold argMay
  cases m
  · have e : decide (es.length = 0) = decide (es = []) := by cases es <;> simp
    rw [if_neg (by simp)]
    have := tmay_single t n s b c hn rt rl rb rr A es.length cap w
    rw [e] at this
    exact this
  · rw [if_pos rfl]
    cases hm : mayRectB rt rl rb rr
    · have := tmay_m0 t n s b c hn rt rl rb rr A es.length cap hm w
      simpa using this
    · cases hz : vEq t n s b c 0 0 ⟨#[]⟩ false 0
      · have := tmay_m1 t n s b c hn rt rl rb rr A es.length cap hm hz w
        simpa [vZero, hz] using this
      · have := tmay_many t n s b c hn rt rl rb rr A es.length cap ⟨true, ⟨t, n, s, b, c⟩, rt, rl, rb, rr, A, cap, es⟩ rfl rfl rfl rfl rfl rfl hm hz w h2 h3 h4
        simpa [vZero, hz] using this
end Go.Proofs.YtgmhifafbebjfaaGreatDoor
namespace Go.Proofs.YtgmhifafbebjfaaGreatDoor
open Go.RowKit

set_option maxRecDepth 100000 in
set_option maxHeartbeats 4000000 in
theorem walk_TextsCalls (name : ByteArray) (hs : name.size ≤ 9223372036854775807) (l : List AL) (hlen : l.length ≤ 1048576) (hsz : ∀ x ∈ l, x.v.s.size ≤ 1048576) (text : Int) (w : World) (ht : Tab w) (A : Option Addr) (cap : Nat) (hR : RdB w w.heap.size A 11 (l.map AL.cs)) (hin : ∀ x ∈ l, x.In w w.heap.size) :
    Calls Tryz.prog 3 #[.string name, .slice A l.length cap, .int .i64 text] w fun e w' => e = .returned (.bool true) ∧ Below w.heap.size w w' := by
  obtain ⟨r, hF⟩ : ∃ r, takesT name l.length (l.any fun x => (true == x.many)) = true → FormA text name (gS (tPairs name l)) (gN (tPairs name l)) r := by
    cases htk : takesT name l.length (l.any fun x => (true == x.many))
    · exact ⟨errL 8, fun h => by cases h⟩
    · obtain ⟨r, hr⟩ := form_of text htk
      exact ⟨r, fun _ => hr⟩
  have C2 : ∀ w2 : World, Below w.heap.size w w2 → Calls Tryz.prog 6 #[.string name, .slice A l.length cap, .int .i64 text] w2 fun e w' => e = .returned (.agg #[.int .i64 ((callT name l text r)).t, .int .i64 ((callT name l text r)).n, .string ((callT name l text r)).s, .bool ((callT name l text r)).b, .int .i64 ((callT name l text r)).c]) ∧ Below w2.heap.size w2 w' := fun w2 hb =>
    r9call_any name l hlen hsz text r hF w2 A cap ((hR.below hb).mono hb.size) (fun x hx => ((hin x hx).below hb).mono hb.size)
  have C1 : Calls Tryz.prog 5 #[.string name, .slice A l.length cap, .int .i64 text] w fun e w' => e = .returned (.agg #[.int .i64 ((callT name l text r)).t, .int .i64 ((callT name l text r)).n, .string ((callT name l text r)).s, .bool ((callT name l text r)).b, .int .i64 ((callT name l text r)).c]) ∧ Below w.heap.size w w' := by
    by_cases h0 : text < 0 ∨ 1024 < text
    · exact tcall_bad name hs l (by omega) text h0 r w A cap
    · refine tcall_any name hs l (by omega) text (by omega) r ⟨fun x hx w2 hi => tmay_any x w2 hi⟩ (fun htk hsg _ => ?_) w ht A cap hR hin
      have hk := (takesT_len htk).1
      have hx := tKd_le name
      refine dot_all (by omega) (hF htk) (gS_in _ fun p hp => asT_size (hin p.2 (pairs_mem hp)).1 (hsz _ (pairs_mem hp))) (gN_in _ fun p hp => whole_in9 (by have := asN_in p.2.v (hin p.2 (pairs_mem hp)).1; omega)) ?_
      refine Nat.le_trans (gS_len _) ?_
      unfold tPairs
      rw [List.length_zip]
      omega
  have CK := fun (w2 : World) (hb : Below w.heap.size w w2) => tkn_any w2 (Tab.below ht hb)
  generalize callT name l text r = V at C1 C2
  obtain ⟨vt, vn, vs, vb, vc⟩ := V
  have C1' := Lib.hid C1
  have C2' := Lib.hid C2
  have hvs := vEq_self vt vn vs vb vc
  clear C1 C2 hR hin hF ht hsz
  go_enter Tryz.func3, Tryz.ntmps3
  go_wp2_with fail
  refine C1'.out.mono ?_
  rintro e w1 ⟨rfl, hb1⟩
  go_wp2_with fail
  refine (C2'.out _ hb1).mono ?_
  rintro e w2 ⟨rfl, hb2⟩
  have g2 : Below w.heap.size w w2 := hb1.trans (hb2.mono hb1.size)
  have CK2 := CK w2 g2
  clear CK
  go_wp2_with fail
  refine CK2.mono ?_
  rintro e w3 ⟨rfl, hb3⟩
  go_wp2
  go_ret
  exact ⟨rfl, g2.trans (hb3.mono g2.size)⟩
end Go.Proofs.YtgmhifafbebjfaaGreatDoor
namespace Go.Proofs.YtgmhifafbebjfaaGreatDoor
open Go.ChangeShapes Go.WideShapes Go.ChangeAt Go.RowKit
open Go.ChangeMaps (open_string)

set_option maxRecDepth 100000 in
/-- what the walk gives, for every input -/
theorem contract_TextsCalls (H : Type) (enc : TypeId × Value → H) (W : World) (base : Nat) (args : Array Value) (ds gs : List (DataW H)) (before : List MemPlace)
    (hval : ∀ (j : Nat) t v, Tryz.f3.params[j]? = some t → args[j]? = some v → Value.okWide Tryz.prog W .any base t v)
    (hW : DataW.Whole enc Tryz.prog Tryz.f3.params.toList Rows.textsCallsSpec.vars false W args.toList ds gs before)
    (ht : Tab W)
    (hk : Rows.uptoSmall H (ds ++ gs) = true) :
    Calls Tryz.prog 3 args W fun e W' => ∃ v, e = .returned v ∧ Rows.textsCallsSpec.post enc Tryz.prog Tryz.f3 false true false false W args v W' := by
  have hW' := hW
  obtain ⟨p, q, hA0, hV, rfl, hfz, hnd⟩ := hW
  have hA : DataW.TrodAll enc Tryz.prog W 0 (fun _ => true) true Tryz.f3.params.toList args.toList ds p := hA0
  rw [Tryz.params3] at hA hval
  obtain ⟨v0, vs0, d0, ds0, p0, q0, hargs, rfl, rfl, h0, r0⟩ := trodAll_cons hA
  obtain ⟨v1, vs1, d1, ds1, p1, q1, rfl, rfl, rfl, h1, r1⟩ := trodAll_cons r0
  obtain ⟨v2, vs2, d2, ds2, p2, q2, rfl, rfl, rfl, h2, r2⟩ := trodAll_cons r1
  obtain ⟨rfl, rfl, rfl⟩ := trodAll_nil r2
  obtain rfl : args = #[v0, v1, v2] := by cases args; simp_all
  obtain ⟨a0, rfl, rfl, rfl, w0⟩ := open_string Tryz.underlying9 (hval 0 9 v0 rfl rfl) h0
  obtain ⟨A1, l1, cap1, rfl, hR1, hP1, hlb1, hsb1, hlc1, hcm1, hN1⟩ := rd_argsb (hval 1 22 v1 rfl rfl) h1
  obtain ⟨a2, rfl, rfl, rfl, w2⟩ := open_int Tryz.underlying3 (hval 2 3 v2 rfl rfl) h2
  have b2 := bounds_i64 w2
  have y1 := small_form hk (d := d1) (List.mem_append_left _ (by simp))
  refine (walk_TextsCalls a0 (by unfold maxLen at w0; omega) l1 (by omega) (fun x hx => Nat.le_trans (hsb1 x hx) y1) a2 W ht A1 cap1 hR1 hP1).mono fun e W' ⟨he, hb⟩ => ⟨_, he, ?_⟩
  exact law_post laidOut Tryz.underlying4 (by kernel_rfl) rfl (fun ds hd => by
    rw [Tryz.params3] at hd
    match ds, hd with
    | [_, _, _], _ => rfl) (by kernel_rfl) hW' hb

/-- the witness' arguments -/
def wArgs_TextsCalls : Array Value := #[.string ⟨#[]⟩, .slice none 0 0, .int .i64 0]
theorem laid_met_TextsCalls (os : Os) : laidMet Tryz.prog Rows.textsCallsUptoRow.laid ((laidWorldD os).forCall (fun _ _ => 0) ⟨#[], wArgs_TextsCalls, []⟩).memory :=
  laidMet_of_run' 8 (by kernel_rfl) (by kernel_rfl)
theorem reads_TextsCalls (os : Os) {H : Type} (enc : TypeId × Value → H) : ∃ places, DataW.whole enc Tryz.prog ((laidWorldD os).forCall (fun _ _ => 0) ⟨#[], wArgs_TextsCalls, []⟩).memory Tryz.f3.params.toList Rows.textsCallsSpec.vars false wArgs_TextsCalls.toList 8 = some ([.lit (.string []), .nil, .lit (.int .i64 0)], [], places) :=
  ⟨[], by kernel_rfl⟩

set_option maxRecDepth 100000 in
theorem wh1_TextsCalls (os : Os) : ((laidWorldD os).forCall (fun _ _ => 0) ⟨#[], wArgs_TextsCalls, []⟩).variablesRefB Tryz.checked.prog = true := by kernel_rfl
set_option maxRecDepth 100000 in
theorem wh2_TextsCalls (os : Os) : (((laidWorldD os).forCall (fun _ _ => 0) ⟨#[], wArgs_TextsCalls, []⟩).heap.toList.drop Tryz.checked.prog.globals.size).take ((begin Tryz.checked.prog (fun _ _ => 0) default).world.heap.size - Tryz.checked.prog.globals.size) =
      (begin Tryz.checked.prog (fun _ _ => 0) default).world.heap.toList.drop Tryz.checked.prog.globals.size := by kernel_rfl
set_option maxRecDepth 100000 in
theorem wh3_TextsCalls (os : Os) : Input.okWideB Tryz.checked.prog ((laidWorldD os).forCall (fun _ _ => 0) ⟨#[], wArgs_TextsCalls, []⟩) 3 ⟨#[], wArgs_TextsCalls, []⟩ = true := by kernel_rfl
theorem wcn_TextsCalls (places : List MemPlace) {H : Type} : Rows.textsCallsUptoRow.domain.all (PathCond.test Tryz.prog ⟨Tryz.f3.params.toList, (([.lit (.string []), .nil, .lit (.int .i64 0)], [], places) : List (DataW H) × List (DataW H) × List MemPlace).1, (Rows.OpenSpec.upto Rows.textsCallsSpec).bare.plain.varTypes Tryz.prog, []⟩) = true := by kernel_rfl
set_option maxRecDepth 100000 in
theorem wpre_TextsCalls (os : Os) {H : Type} (enc : TypeId × Value → H) : (Rows.OpenSpec.upto Rows.textsCallsSpec).preRow enc Tryz.prog Tryz.f3 Rows.textsCallsUptoRow.domain false Rows.textsCallsUptoRow.laid ((laidWorldD os).forCall (fun _ _ => 0) ⟨#[], wArgs_TextsCalls, []⟩).memory wArgs_TextsCalls := by
  obtain ⟨places, hx⟩ := reads_TextsCalls os enc
  exact OpenSpec.preRow_of_cond 8 hx (wcn_TextsCalls places) (fun k hk => by cases hk; rfl) (by kernel_rfl) (laid_met_TextsCalls os)

set_option maxRecDepth 100000 in
theorem lifted_TextsCalls (os : Os) (started : os.Started) (H : Type) (enc : TypeId × Value → H) (F : Stop.Interp) :
    ReturnsInHanded {} Tryz.checked os 3 .any ((Rows.OpenSpec.upto Rows.textsCallsSpec).preRow enc Tryz.prog Tryz.f3 Rows.textsCallsUptoRow.domain false Rows.textsCallsUptoRow.laid) (((Rows.OpenSpec.upto Rows.textsCallsSpec).at F).post enc Tryz.prog Tryz.f3 false true false false) := by
  refine returnsInHanded_of_row (C := Tryz.checked) (s := Rows.OpenSpec.upto Rows.textsCallsSpec) own started (by kernel_rfl) Tryz.func3
    (witness_row_atRef (enc := enc) (C := Tryz.checked) false (laidWorldD os) wArgs_TextsCalls rfl (wh1_TextsCalls os) (wh2_TextsCalls os) (wh3_TextsCalls os) (wpre_TextsCalls os enc)) ?_
  intro W base args ds gs before hval hW _ hcd _ hL hsh _
  exact contract_TextsCalls H enc W base args ds gs before hval hW (tab_ofD (laidMet_tailD (laidMet_tailD hL)) hsh) (hcd _ rfl)

set_option maxRecDepth 100000 in
theorem jf_TextsCalls : joinedFacts Tryz.pinned.checked.prog 3 Tryz.f3 (Rows.OpenSpec.upto Rows.textsCallsSpec).bare Rows.textsCallsUptoRow = true := by kernel_rfl
theorem said_TextsCalls : Rows.TextsCallsUptoSaid :=
  OpenClaim.holds_of_cond 3 Tryz.f3 rfl rfl rfl rfl rfl rfl rfl ⟨rfl, rfl, rfl, rfl, rfl⟩ rfl rfl rfl rfl rfl (by kernel_rfl) Tryz.func3 jf_TextsCalls
    (of_decide_eq_true (by kernel_rfl)) (by unfold Func.isWrapper; rw [if_neg (of_decide_eq_false (by kernel_rfl))]; exact ⟨rfl, rfl⟩)
    (fun os started H enc _ F => by rw [OpenClaim.pre_eq_preRow]; exact lifted_TextsCalls os started H enc F)

theorem plain_TextsCalls (f : FuncId) (fn : Func) (hf : Tryz.pinned.checked.prog.funcNamed "oriel/oriellaw09.TextsCalls" = some f) (hfn : Tryz.pinned.checked.prog.funcs[f]? = some fn) :
    true = Tryz.pinned.checked.prog.looks [] ∧ ∀ (j : Nat) t, fn.params[j]? = some t → Tryz.pinned.checked.prog.wantsStandIn t = false := by
  obtain rfl : f = 3 := Option.some.inj ((show Tryz.prog.funcNamed "oriel/oriellaw09.TextsCalls" = some 3 by kernel_rfl).symm.trans hf) |>.symm
  obtain rfl : fn = Tryz.f3 := (Option.some.inj (Tryz.func3.symm.trans hfn)).symm
  refine ⟨by kernel_rfl, fun j t ht => ?_⟩
  rw [Tryz.params3] at ht
  have hm : t = 9 ∨ t = 22 ∨ t = 3 := by simpa using Array.mem_of_getElem? ht
  rcases hm with rfl | rfl | rfl
  · exact (show Tryz.prog.wantsStandIn 9 = false by kernel_rfl)
  · exact (show Tryz.prog.wantsStandIn 22 = false by kernel_rfl)
  · exact (show Tryz.prog.wantsStandIn 3 = false by kernel_rfl)

/-- THE CARD -/
theorem card_TextsCalls : Rows.TextsCallsUptoCardSaid :=
  Claim7.holds_tied_plain_at .later [] _ _ _ _ said_TextsCalls (fun _ h => by cases h) (by kernel_rfl) (fun _ h => by cases h) textsCallsUpto_row_tie rfl ⟨rfl, rfl⟩ (by kernel_rfl) rfl plain_TextsCalls (by kernel_rfl)
end Go.Proofs.YtgmhifafbebjfaaGreatDoor
