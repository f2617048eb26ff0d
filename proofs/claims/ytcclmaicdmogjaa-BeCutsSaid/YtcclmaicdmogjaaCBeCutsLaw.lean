/- what be.Cut, be.Lay and be.Pad answer is the document's at any bytes and numbers, in new memory: what is written into the answers does not change the arguments. -/
import Derived.Test.YtcclmaicdmogjaaPj
import Derived.Test.YtcclmaicdmogjaaRows
import Derived.WalkKit
import Derived.ProofKit
import Derived.OpenShut
import Derived.ShutString
import Derived.ChangeOld
import Derived.Below
import Derived.SizedLaws
import Derived.Test.YtcclmaicdmogjaaWSized
import Derived.Test.YtcclmaicdmogjaaCBeCuts1
/- what be.Cut, be.Lay and be.Pad answer is the document's at any bytes and numbers, in new memory: what is written into the answers does not change the arguments. -/
-- Written by wip/pr.py: row by hand
namespace Go.Proofs.Ytcclmaicdmogjaa.beCuts
open Go.ChangeShapes Go.WideShapes Go.ChangeAt Go.RowKit
open Go.ChangeMaps (open_string shut_string)
set_option linter.unusedVariables false
theorem own : ownKnob Try.prog.godebug = none := by kernel_rfl
theorem laidOut : laidOutB Try.prog = true := by kernel_rfl
open Go.Proofs.YtcclmaicdmogjaaW.PrintWords P
set_option maxHeartbeats 1000000 in
set_option maxRecDepth 100000 in
theorem contract (H : Type) (enc : TypeId × Value → H) (W : World) (base : Nat) (args : Array Value) (ds gs : List (DataW H)) (before : List MemPlace)
    (hval0 : ∀ (j : Nat) t v, Try.f11.params[j]? = some t → args[j]? = some v → Value.okWide Try.prog W .any base t v)
    (hW : DataW.Whole enc Try.prog Try.f11.params.toList Rows.beCutsSpec.vars false W args.toList ds gs before)
    (hsz0 : (DataW.weightsEach Try.prog (Try.f11.params.toList ++ Rows.beCutsSpec.plain.varTypes Try.prog) (ds ++ gs)).all (· ≤ reachBytes) = true) :
    Calls Try.prog 11 args W fun e W' => ∃ v, e = .returned v ∧ Rows.beCutsSpec.post enc Try.prog Try.f11 false true false false W args v W' := by
  have hval : ∀ (j : Nat) t v, Try.f11.params[j]? = some t → args[j]? = some v → Value.okWide Try.prog W .any base t v := hval0
  have hsz : (DataW.weightsEach Try.prog (Try.f11.params.toList ++ Rows.beCutsSpec.plain.varTypes Try.prog) (ds ++ gs)).all (· ≤ reachBytes) = true := hsz0
  have hW' := hW
  obtain ⟨p, q, hA0, hV, rfl, hfz, hnd⟩ := hW
  have hA : DataW.TrodAll enc Try.prog W 0 (fun _ => true) true Try.f11.params.toList args.toList ds p := hA0
  rw [Try.params11] at hA hval hsz
  obtain ⟨v0, vs0, d0, ds0, p0, q0, hargs, rfl, rfl, h0, r0⟩ := trodAll_cons hA
  obtain ⟨v1, vs1, d1, ds1, p1, q1, rfl, rfl, rfl, h1, r1⟩ := trodAll_cons r0
  obtain ⟨v2, vs2, d2, ds2, p2, q2, rfl, rfl, rfl, h2, r2⟩ := trodAll_cons r1
  obtain ⟨rfl, rfl, rfl⟩ := trodAll_nil r2
  obtain rfl : args = #[v0, v1, v2] := by cases args; simp_all
  obtain ⟨rfl, rfl⟩ := trodVars_none hV
  obtain ⟨A0, c0, l0, rfl, hc0, hC0, ho0, hs0, hd0⟩ := arg_slice Try.underlying23 (by kernel_rfl) (op_int Try.underlying5) (hval 0 23 v0 rfl rfl) h0
  have y0 : l0.length * 1 ≤ 140737488351232 := by
    rcases hd0 with rfl | ⟨elems, spare, he, hl⟩
    · simp
    · have z := sized_slice hsz (j := 0) (t := 23) rfl (by rw [← he]; rfl) Try.underlying23
      rw [show Try.prog.bytesOf 5 = 1 by kernel_rfl, hl] at z
      have hr : reachBytes ≤ 140737488351232 := by decide
      rw [Nat.add_mul] at z
      omega
  obtain ⟨A1, c1, l1, rfl, hc1, hC1, ho1, hs1, hd1⟩ := arg_slice Try.underlying23 (by kernel_rfl) (op_int Try.underlying5) (hval 1 23 v1 rfl rfl) h1
  have y1 : l1.length * 1 ≤ 140737488351232 := by
    rcases hd1 with rfl | ⟨elems, spare, he, hl⟩
    · simp
    · have z := sized_slice hsz (j := 1) (t := 23) rfl (by rw [← he]; rfl) Try.underlying23
      rw [show Try.prog.bytesOf 5 = 1 by kernel_rfl, hl] at z
      have hr : reachBytes ≤ 140737488351232 := by decide
      rw [Nat.add_mul] at z
      omega
  obtain ⟨x2_0, x2_1, x2_2, rfl, w2_0, w2_1, w2_2⟩ := arg_arr3 Try.underlying46 (by kernel_rfl) (by kernel_rfl) (hval 2 46 v2 rfl rfl) h2
  obtain ⟨k, hz⟩ := P.beCuts_all l0 l1 x2_0 x2_1 x2_2 (P.wf_i64_out w2_0) (P.wf_i64_out w2_1) (P.wf_i64_out w2_2) (by omega) (by omega)
  refine (P.calamuslaw02_BeCuts.calls k _ _ l0 _ _ l1 x2_0 x2_1 x2_2 true W hC0 hc0 hC1 hc1 hz).mono fun e W' ⟨he, bel⟩ => ?_
  subst he
  exact ⟨_, rfl, _, _, _, [], _, [], hW', trodAll_mk1 (shut_bool Try.underlying4 _), (trodAll_cons_mk (Below.trod laidOut (by kernel_rfl) (of_decide_eq_true (by kernel_rfl)) h0 bel (trod_lt_ h0)) (trodAll_cons_mk (Below.trod laidOut (by kernel_rfl) (of_decide_eq_true (by kernel_rfl)) h1 bel (trod_lt_ h1)) (trodAll_cons_mk (Below.trod laidOut (by kernel_rfl) (of_decide_eq_true (by kernel_rfl)) h2 bel (trod_lt_ h2)) trodAll_mk0))), rfl, bel.frame _, fun h => by cases h⟩
set_option maxRecDepth 100000 in
theorem lifted (os : Os) (started : os.Started) (H : Type) (enc : TypeId × Value → H) :
    ReturnsInHanded {} Try.checked os 11 .any (Rows.beCutsSpec.pre6 enc Try.prog Try.f11 Rows.beCutsRow.domain false) (Rows.beCutsSpec.post enc Try.prog Try.f11 false true false false) := by
  refine returnsInHanded_of_change_sized (C := Try.checked) own started (by kernel_rfl) Try.func11
    (ChangeSpec.witness6 (enc := enc) (C := Try.checked) false ⟨#[], #[.slice none 0 0, .slice none 0 0, .agg #[.int .i64 0, .int .i64 0, .int .i64 0]], []⟩ 8 (by kernel_rfl) (by kernel_rfl) (by kernel_rfl) (by kernel_rfl)) ?_
  intro W base args ds gs before hval hW _ hsz _
  exact contract H enc W base args ds gs before hval hW hsz
theorem over : Rows.beCutsRow.holds Try.pinned (OpenSpec.ofChange Rows.beCutsSpec) :=
  OpenClaim.holds_of_wide 11 Try.f11 rfl rfl rfl rfl rfl rfl rfl ⟨rfl, rfl, rfl, rfl, rfl⟩ rfl rfl rfl rfl rfl (by kernel_rfl) Try.func11 (Go.Proofs.Ytcclmaicdmogjaa.P.joined_mk (s := Rows.beCutsSpec) (c := Rows.beCutsRow) rfl rfl (by kernel_rfl) (by kernel_rfl) (by kernel_rfl) (by kernel_rfl) (by kernel_rfl) (by kernel_rfl) (by kernel_rfl) (by kernel_rfl) (by kernel_rfl) (by kernel_rfl) (by kernel_rfl) (by kernel_rfl) (by kernel_rfl) (by kernel_rfl) (by kernel_rfl) (by kernel_rfl) (by kernel_rfl) (by kernel_rfl) (by kernel_rfl) (by kernel_rfl) (by kernel_rfl) (by kernel_rfl) (by kernel_rfl) (by kernel_rfl) (by kernel_rfl) (by kernel_rfl) (by kernel_rfl) (by kernel_rfl) (by kernel_rfl) )
    (of_decide_eq_true (by kernel_rfl)) (by unfold Func.isWrapper; first | (rw [if_pos (by decide +kernel)]; kernel_rfl) | (rw [if_neg (by decide +kernel)]; exact ⟨rfl, rfl⟩))
    (fun os started H enc _ => lifted os started H enc)
theorem proved : Rows.BeCutsSaid := over
#print axioms proved
end Go.Proofs.Ytcclmaicdmogjaa.beCuts
namespace Go.Proofs.Ytcclmaicdmogjaa
/-- The row, under a short name, for the claim. -/
theorem beCuts_holds : Rows.BeCutsSaid := beCuts.proved
end Go.Proofs.Ytcclmaicdmogjaa
