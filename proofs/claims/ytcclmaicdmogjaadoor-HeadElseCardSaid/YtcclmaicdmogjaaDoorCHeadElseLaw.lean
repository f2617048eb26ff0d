/- where head.PutHead and head.PutMaxp lay nothing each byte stays, and what is refused has no bytes, at any bytes of at most 5000 (beyond, the law answers true), any head and any maxp. The row lists the variable head.places, tied to the program's text. -/
import Derived.Test.YtcclmaicdmogjaaDoorPj
import Derived.Test.YtcclmaicdmogjaaDoorCards
import Derived.Test.YtcclmaicdmogjaaDoorTie
import Derived.WalkKit
import Derived.ProofKit
import Derived.OpenShut
import Derived.ShutString
import Derived.Below
import Derived.SizedLaws
import Derived.Deep.DeepHandedRow
import Derived.Lib.LaidTab
import Derived.JoinedCond
import Derived.Test.YtcclmaicdmogjaaDoorCHeadElse1
/- where head.PutHead and head.PutMaxp lay nothing each byte stays, and what is refused has no bytes, at any bytes of at most 5000 (beyond, the law answers true), any head and any maxp. The row lists the variable head.places, tied to the program's text. -/
-- Written by wip/pr.py: row by hand
namespace Go.Proofs.YtcclmaicdmogjaaDoor.headElse
open Go.ChangeShapes Go.WideShapes Go.ChangeAt Go.RowKit
open Go.ChangeMaps (open_string shut_string)
open Go.Proofs.YtcclmaicdmogjaaDoorW.PrintWords P
set_option linter.unusedVariables false
theorem own : ownKnob Tryd.prog.godebug = none := by kernel_rfl
theorem laidOut : laidOutB Tryd.prog = true := by kernel_rfl
theorem gTab : Tryd.prog.globalNamed "calamus/head.places" = some 0 := by kernel_rfl
theorem gTabType : (Tryd.prog.globals[0]?).map (·.type) = some 75 := by kernel_rfl
theorem cellsT : Tryd.prog.cellsOf 75 = 7 := by kernel_rfl
theorem cellsE : Tryd.prog.cellsOf 3 = 1 := by kernel_rfl
theorem table {W : World} (h : laidMetH Tryd.prog Rows.headElseRow.laid W) : Lib.TabIs Tryd.prog W "calamus/head.places" .i64 [4, 6, 8, 10, 12, 28, 30] :=
  Lib.tabIs_of_head (rest := []) gTab gTabType Tryd.underlying75 Tryd.underlying3 cellsE cellsT h
theorem pl_of {W : World} (h : laidMetH Tryd.prog Rows.headElseRow.laid W) : PL W :=
  ⟨(table h).cell gTab 0 (by decide), (table h).cell gTab 1 (by decide), (table h).cell gTab 2 (by decide), (table h).cell gTab 3 (by decide), (table h).cell gTab 4 (by decide), (table h).cell gTab 5 (by decide), (table h).cell gTab 6 (by decide)⟩
set_option maxHeartbeats 1000000 in
set_option maxRecDepth 100000 in
theorem contract (H : Type) (enc : TypeId × Value → H) (W : World) (base : Nat) (args : Array Value) (ds gs : List (DataW H)) (before : List MemPlace)
    (hval0 : ∀ (j : Nat) t v, Tryd.f4.params[j]? = some t → args[j]? = some v → Value.okWide Tryd.prog W .any base t v)
    (hW : DataW.Whole enc Tryd.prog Tryd.f4.params.toList Rows.headElseSpec.vars false W args.toList ds gs before) (hL : laidMetH Tryd.prog Rows.headElseRow.laid W)
    (hsz0 : (DataW.weightsEach Tryd.prog (Tryd.f4.params.toList ++ Rows.headElseSpec.plain.varTypes Tryd.prog) (ds ++ gs)).all (· ≤ reachBytes) = true) :
    Calls Tryd.prog 4 args W fun e W' => ∃ v, e = .returned v ∧ Rows.headElseSpec.post enc Tryd.prog Tryd.f4 false true false false W args v W' := by
  have hG := pl_of hL
  have hval : ∀ (j : Nat) t v, Tryd.f4.params[j]? = some t → args[j]? = some v → Value.okWide Tryd.prog W .any base t v := hval0
  have hsz : (DataW.weightsEach Tryd.prog (Tryd.f4.params.toList ++ Rows.headElseSpec.plain.varTypes Tryd.prog) (ds ++ gs)).all (· ≤ reachBytes) = true := hsz0
  have hW' := hW
  obtain ⟨p, q, hA0, hV, rfl, hfz, hnd⟩ := hW
  have hA : DataW.TrodAll enc Tryd.prog W 0 (fun _ => true) true Tryd.f4.params.toList args.toList ds p := hA0
  rw [Tryd.params4] at hA hval hsz
  obtain ⟨v0, vs0, d0, ds0, p0, q0, hargs, rfl, rfl, h0, r0⟩ := trodAll_cons hA
  obtain ⟨v1, vs1, d1, ds1, p1, q1, rfl, rfl, rfl, h1, r1⟩ := trodAll_cons r0
  obtain ⟨v2, vs2, d2, ds2, p2, q2, rfl, rfl, rfl, h2, r2⟩ := trodAll_cons r1
  obtain ⟨rfl, rfl, rfl⟩ := trodAll_nil r2
  obtain rfl : args = #[v0, v1, v2] := by cases args; simp_all
  obtain ⟨rfl, rfl⟩ := trodVars_none hV
  obtain ⟨A0, c0, l0, rfl, hc0, hC0, ho0, hs0, hd0⟩ := arg_slice Tryd.underlying22 (by kernel_rfl) (op_int Tryd.underlying5) (hval 0 22 v0 rfl rfl) h0
  have y0 : l0.length * 1 ≤ 140737488351232 := by
    rcases hd0 with rfl | ⟨elems, spare, he, hl⟩
    · simp
    · have z := sized_slice hsz (j := 0) (t := 22) rfl (by rw [← he]; rfl) Tryd.underlying22
      rw [show Tryd.prog.bytesOf 5 = 1 by kernel_rfl, hl] at z
      have hr : reachBytes ≤ 140737488351232 := by decide
      rw [Nat.add_mul] at z
      omega
  obtain ⟨b1_0, b1_1, b1_2, b1_3, b1_4, b1_5, rfl, w1_0, w1_1, w1_2, w1_3, w1_4⟩ := arg_head (hval 1 37 v1 rfl rfl) h1
  obtain ⟨b2_0, b2_1, b2_2, b2_3, b2_4, b2_5, b2_6, rfl, w2_0, w2_1, w2_2, w2_3, w2_4, w2_5, w2_6⟩ := arg_maxp (hval 2 24 v2 rfl rfl) h2
  have hz := P.headElse_all l0 b1_0 b1_1 b1_2 b1_3 b1_4 b1_5 b2_0 b2_1 b2_2 b2_3 b2_4 b2_5 b2_6 ⟨P.wf_i64_out w1_0, P.wf_i64_out w1_1, P.wf_i64_out w1_2, P.wf_i64_out w1_3, P.wf_i64_out w1_4⟩ ⟨P.wf_i64_out w2_0, P.wf_i64_out w2_1, P.wf_i64_out w2_2, P.wf_i64_out w2_3, P.wf_i64_out w2_4, P.wf_i64_out w2_5, P.wf_i64_out w2_6⟩
  refine (P.calamuslaw05_HeadElse.calls 15010 _ _ l0 b1_0 b1_1 b1_2 b1_3 b1_4 b1_5 b2_0 b2_1 b2_2 b2_3 b2_4 b2_5 b2_6 true W hG hC0 hc0 hz).mono fun e W' ⟨he, bel⟩ => ?_
  subst he
  exact ⟨_, rfl, _, _, _, [], _, [], hW', trodAll_mk1 (shut_bool Tryd.underlying4 _), (trodAll_cons_mk (Below.trod laidOut (by kernel_rfl) (of_decide_eq_true (by kernel_rfl)) h0 bel (trod_lt_ h0)) (trodAll_cons_mk (Below.trod laidOut (by kernel_rfl) (of_decide_eq_true (by kernel_rfl)) h1 bel (trod_lt_ h1)) (trodAll_cons_mk (Below.trod laidOut (by kernel_rfl) (of_decide_eq_true (by kernel_rfl)) h2 bel (trod_lt_ h2)) trodAll_mk0))), rfl, bel.frame _, fun h => by cases h⟩
noncomputable def laidWorld (os : Os) : World :=
  { World.holding Tryd.prog os ⟨#[], #[], []⟩ with heap := (World.holding Tryd.prog os ⟨#[], #[], []⟩).heap.modify 0 fun
      | .cells _ t frozen => .cells #[.int .i64 4, .int .i64 6, .int .i64 8, .int .i64 10, .int .i64 12, .int .i64 28, .int .i64 30] t frozen
      | o => o }
theorem laid_met (os : Os) : laidMet Tryd.prog Rows.headElseRow.laid ((laidWorld os).forCall (fun _ _ => 0) ⟨#[], #[.slice none 0 0, .agg #[.int .i64 0, .int .i64 0, .int .i64 0, .int .i64 0, .int .i64 0, .bool false], .agg #[.int .i64 0, .int .i64 0, .int .i64 0, .int .i64 0, .int .i64 0, .int .i64 0, .int .i64 0]], []⟩).memory :=
  laidMet_of_run' 8 (by kernel_rfl) (by kernel_rfl)
theorem reads (os : Os) {H : Type} (enc : TypeId × Value → H) : ∃ places, DataW.whole enc Tryd.prog ((laidWorld os).forCall (fun _ _ => 0) ⟨#[], #[.slice none 0 0, .agg #[.int .i64 0, .int .i64 0, .int .i64 0, .int .i64 0, .int .i64 0, .bool false], .agg #[.int .i64 0, .int .i64 0, .int .i64 0, .int .i64 0, .int .i64 0, .int .i64 0, .int .i64 0]], []⟩).memory Tryd.f4.params.toList Rows.headElseSpec.vars false (#[.slice none 0 0, .agg #[.int .i64 0, .int .i64 0, .int .i64 0, .int .i64 0, .int .i64 0, .bool false], .agg #[.int .i64 0, .int .i64 0, .int .i64 0, .int .i64 0, .int .i64 0, .int .i64 0, .int .i64 0]] : Array Value).toList 8 = some ([.nil, .agg [.lit (.int .i64 0), .lit (.int .i64 0), .lit (.int .i64 0), .lit (.int .i64 0), .lit (.int .i64 0), .lit (.bool false)], .agg [.lit (.int .i64 0), .lit (.int .i64 0), .lit (.int .i64 0), .lit (.int .i64 0), .lit (.int .i64 0), .lit (.int .i64 0), .lit (.int .i64 0)]], [], places) :=
  ⟨[], by kernel_rfl⟩
set_option maxRecDepth 100000 in
theorem lifted (os : Os) (started : os.Started) (H : Type) (enc : TypeId × Value → H) (F : Stop.Interp) :
    ReturnsInHanded {} Tryd.checked os 4 .any ((OpenSpec.ofChange Rows.headElseSpec).preRow enc Tryd.prog Tryd.f4 Rows.headElseRow.domain false Rows.headElseRow.laid) (((OpenSpec.ofChange Rows.headElseSpec).at F).post enc Tryd.prog Tryd.f4 false true false false) := by
  obtain ⟨places, hx⟩ := reads os enc
  refine returnsInHanded_of_row (C := Tryd.checked) (s := OpenSpec.ofChange Rows.headElseSpec) own started (by kernel_rfl) Tryd.func4
    (witness_row_at (enc := enc) (C := Tryd.checked) false (laidWorld os) #[.slice none 0 0, .agg #[.int .i64 0, .int .i64 0, .int .i64 0, .int .i64 0, .int .i64 0, .bool false], .agg #[.int .i64 0, .int .i64 0, .int .i64 0, .int .i64 0, .int .i64 0, .int .i64 0, .int .i64 0]] rfl (by kernel_rfl) (by kernel_rfl) (by kernel_rfl)
      (OpenSpec.preRow_of_cond 8 hx (by kernel_rfl) (fun k hk => by cases hk) (by kernel_rfl) (laid_met os))) ?_
  intro W base args ds gs before hval hW hcond hx1 hx2 hL hx3 hx4
  exact contract H enc W base args ds gs before hval hW hL (by first | exact hx1 | exact hx2 | exact hx3 | exact hx4)
theorem said : Rows.HeadElseSaid :=
  OpenClaim.holds_of_cond 4 Tryd.f4 rfl rfl rfl rfl rfl rfl rfl ⟨rfl, rfl, rfl, rfl, rfl⟩ rfl rfl rfl rfl rfl (by kernel_rfl) Tryd.func4 (Go.Proofs.YtcclmaicdmogjaaDoor.P.joined_mk (s := (OpenSpec.ofChange Rows.headElseSpec).bare) (c := Rows.headElseRow) rfl rfl (by kernel_rfl) (by kernel_rfl) (by kernel_rfl) (by kernel_rfl) (by kernel_rfl) (by kernel_rfl) (by kernel_rfl) (by kernel_rfl) (by kernel_rfl) (by kernel_rfl) (by kernel_rfl) (by kernel_rfl) (by kernel_rfl) (by kernel_rfl) (by kernel_rfl) (by kernel_rfl) (by kernel_rfl) (by kernel_rfl) (by kernel_rfl) (by kernel_rfl) (by kernel_rfl) (by kernel_rfl) (by kernel_rfl) (by kernel_rfl) (by kernel_rfl) (by kernel_rfl) (by kernel_rfl) (by kernel_rfl) (by kernel_rfl) )
    (of_decide_eq_true (by kernel_rfl)) (by unfold Func.isWrapper; first | (rw [if_pos (by decide +kernel)]; kernel_rfl) | (rw [if_neg (by decide +kernel)]; exact ⟨rfl, rfl⟩))
    (fun os started H enc _ F => by rw [OpenClaim.pre_eq_preRow]; exact lifted os started H enc F)
theorem plain (f : FuncId) (fn : Func) (hf : Tryd.pinned.checked.prog.funcNamed "calamus/calamuslaw05.HeadElse" = some f) (hfn : Tryd.pinned.checked.prog.funcs[f]? = some fn) :
    false = Tryd.pinned.checked.prog.looks [] ∧ ∀ (j : Nat) t, fn.params[j]? = some t → Tryd.pinned.checked.prog.wantsStandIn t = false := by
  obtain rfl : f = 4 := Option.some.inj ((show Tryd.prog.funcNamed "calamus/calamuslaw05.HeadElse" = some 4 by kernel_rfl).symm.trans hf) |>.symm
  obtain rfl : fn = Tryd.f4 := (Option.some.inj (Tryd.func4.symm.trans hfn)).symm
  refine ⟨by kernel_rfl, fun j t ht => ?_⟩
  rw [Tryd.params4] at ht
  have hm : t ∈ (#[22, 37, 24] : Array TypeId) := Array.mem_of_getElem? ht
  simp only [List.mem_toArray, List.mem_cons, List.not_mem_nil, or_false] at hm
  rcases hm with rfl | rfl | rfl
  · exact (show Tryd.prog.wantsStandIn 22 = false by kernel_rfl)
  · exact (show Tryd.prog.wantsStandIn 37 = false by kernel_rfl)
  · exact (show Tryd.prog.wantsStandIn 24 = false by kernel_rfl)
theorem card : Rows.HeadElseCardSaid :=
  Claim7.holds_tied_plain_at .later [] _ _ _ _ said (fun _ h => by cases h) (by kernel_rfl) (fun _ h => by cases h) headElse_row_tie rfl ⟨rfl, rfl⟩ (by kernel_rfl) rfl plain (by kernel_rfl)
end Go.Proofs.YtcclmaicdmogjaaDoor.headElse
namespace Go.Proofs.YtcclmaicdmogjaaDoor
theorem headElse_holds : Rows.HeadElseCardSaid := headElse.card
end Go.Proofs.YtcclmaicdmogjaaDoor
#print axioms Go.Proofs.YtcclmaicdmogjaaDoor.headElse_holds
