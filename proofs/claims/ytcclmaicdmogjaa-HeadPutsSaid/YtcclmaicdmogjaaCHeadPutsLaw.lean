/- head.PutHead answers what the document's reference answers at any bytes and any head, in new memory: what is written into the answer does not change the argument. -/
import Derived.Test.YtcclmaicdmogjaaPj
import Derived.Test.YtcclmaicdmogjaaRows
import Derived.WalkKit
import Derived.ProofKit
import Derived.OpenShut
import Derived.ShutString
import Derived.ChangeOld
import Derived.Below
import Derived.SizedLaws
import Derived.Test.YtcclmaicdmogjaaWSized
import Derived.Test.YtcclmaicdmogjaaCHeadPuts1
import Derived.Test.YtcclmaicdmogjaaCHeadPuts2
/- head.PutHead answers what the document's reference answers at any bytes and any head, in new memory: what is written into the answer does not change the argument. -/
-- Written by wip/pr.py: row by hand
namespace Go.Proofs.Ytcclmaicdmogjaa.headPuts
open Go.ChangeShapes Go.WideShapes Go.ChangeAt Go.RowKit
open Go.ChangeMaps (open_string shut_string)
set_option linter.unusedVariables false
theorem own : ownKnob Try.prog.godebug = none := by kernel_rfl
theorem laidOut : laidOutB Try.prog = true := by kernel_rfl
open Go.Proofs.YtcclmaicdmogjaaW.PrintWords P
set_option maxHeartbeats 1000000 in
set_option maxRecDepth 100000 in
theorem contract (H : Type) (enc : TypeId × Value → H) (W : World) (base : Nat) (args : Array Value) (ds gs : List (DataW H)) (before : List MemPlace)
    (hval0 : ∀ (j : Nat) t v, Try.f13.params[j]? = some t → args[j]? = some v → Value.okWide Try.prog W .any base t v)
    (hW : DataW.Whole enc Try.prog Try.f13.params.toList Rows.headPutsSpec.vars false W args.toList ds gs before)
    (hsz0 : (DataW.weightsEach Try.prog (Try.f13.params.toList ++ Rows.headPutsSpec.plain.varTypes Try.prog) (ds ++ gs)).all (· ≤ reachBytes) = true) :
    Calls Try.prog 13 args W fun e W' => ∃ v, e = .returned v ∧ Rows.headPutsSpec.post enc Try.prog Try.f13 false true false false W args v W' := by
  have hval : ∀ (j : Nat) t v, Try.f13.params[j]? = some t → args[j]? = some v → Value.okWide Try.prog W .any base t v := hval0
  have hsz : (DataW.weightsEach Try.prog (Try.f13.params.toList ++ Rows.headPutsSpec.plain.varTypes Try.prog) (ds ++ gs)).all (· ≤ reachBytes) = true := hsz0
  have hW' := hW
  obtain ⟨p, q, hA0, hV, rfl, hfz, hnd⟩ := hW
  have hA : DataW.TrodAll enc Try.prog W 0 (fun _ => true) true Try.f13.params.toList args.toList ds p := hA0
  rw [Try.params13] at hA hval hsz
  obtain ⟨v0, vs0, d0, ds0, p0, q0, hargs, rfl, rfl, h0, r0⟩ := trodAll_cons hA
  obtain ⟨v1, vs1, d1, ds1, p1, q1, rfl, rfl, rfl, h1, r1⟩ := trodAll_cons r0
  obtain ⟨rfl, rfl, rfl⟩ := trodAll_nil r1
  obtain rfl : args = #[v0, v1] := by cases args; simp_all
  obtain ⟨rfl, rfl⟩ := trodVars_none hV
  obtain ⟨A0, c0, l0, rfl, hc0, hC0, ho0, hs0, hd0⟩ := arg_slice Try.underlying23 (by kernel_rfl) (op_int Try.underlying5) (hval 0 23 v0 rfl rfl) h0
  have y0 : l0.length * 1 ≤ 140737488351232 := by
    rcases hd0 with rfl | ⟨elems, spare, he, hl⟩
    · simp
    · have z := sized_slice hsz (j := 0) (t := 23) rfl (by rw [← he]; rfl) Try.underlying23
      rw [show Try.prog.bytesOf 5 = 1 by kernel_rfl, hl] at z
      have hr : reachBytes ≤ 140737488351232 := by decide
      rw [Nat.add_mul] at z
      omega
  obtain ⟨b1_0, b1_1, b1_2, b1_3, b1_4, b1_5, rfl, w1_0, w1_1, w1_2, w1_3, w1_4⟩ := arg_head (hval 1 57 v1 rfl rfl) h1
  obtain ⟨k, hz⟩ := P.headPuts_all l0 b1_0 b1_1 b1_2 b1_3 b1_4 b1_5 (by omega) (P.wf_i64_out w1_0) (P.wf_i64_out w1_1) (P.wf_i64_out w1_2) (P.wf_i64_out w1_3) (P.wf_i64_out w1_4)
  refine (P.calamuslaw05_HeadPuts.calls k _ _ l0 b1_0 b1_1 b1_2 b1_3 b1_4 b1_5 true W hC0 hc0 hz).mono fun e W' ⟨he, bel⟩ => ?_
  subst he
  exact ⟨_, rfl, _, _, _, [], _, [], hW', trodAll_mk1 (shut_bool Try.underlying4 _), (trodAll_cons_mk (Below.trod laidOut (by kernel_rfl) (of_decide_eq_true (by kernel_rfl)) h0 bel (trod_lt_ h0)) (trodAll_cons_mk (Below.trod laidOut (by kernel_rfl) (of_decide_eq_true (by kernel_rfl)) h1 bel (trod_lt_ h1)) trodAll_mk0)), rfl, bel.frame _, fun h => by cases h⟩
set_option maxRecDepth 100000 in
theorem lifted (os : Os) (started : os.Started) (H : Type) (enc : TypeId × Value → H) :
    ReturnsInHanded {} Try.checked os 13 .any (Rows.headPutsSpec.pre6 enc Try.prog Try.f13 Rows.headPutsRow.domain false) (Rows.headPutsSpec.post enc Try.prog Try.f13 false true false false) := by
  refine returnsInHanded_of_change_sized (C := Try.checked) own started (by kernel_rfl) Try.func13
    (ChangeSpec.witness6 (enc := enc) (C := Try.checked) false ⟨#[], #[.slice none 0 0, .agg #[.int .i64 0, .int .i64 0, .int .i64 0, .int .i64 0, .int .i64 0, .bool false]], []⟩ 8 (by kernel_rfl) (by kernel_rfl) (by kernel_rfl) (by kernel_rfl)) ?_
  intro W base args ds gs before hval hW _ hsz _
  exact contract H enc W base args ds gs before hval hW hsz
theorem over : Rows.headPutsRow.holds Try.pinned (OpenSpec.ofChange Rows.headPutsSpec) :=
  OpenClaim.holds_of_wide 13 Try.f13 rfl rfl rfl rfl rfl rfl rfl ⟨rfl, rfl, rfl, rfl, rfl⟩ rfl rfl rfl rfl rfl (by kernel_rfl) Try.func13 (Go.Proofs.Ytcclmaicdmogjaa.P.joined_mk (s := Rows.headPutsSpec) (c := Rows.headPutsRow) rfl rfl (by kernel_rfl) (by kernel_rfl) (by kernel_rfl) (by kernel_rfl) (by kernel_rfl) (by kernel_rfl) (by kernel_rfl) (by kernel_rfl) (by kernel_rfl) (by kernel_rfl) (by kernel_rfl) (by kernel_rfl) (by kernel_rfl) (by kernel_rfl) (by kernel_rfl) (by kernel_rfl) (by kernel_rfl) (by kernel_rfl) (by kernel_rfl) (by kernel_rfl) (by kernel_rfl) (by kernel_rfl) (by kernel_rfl) (by kernel_rfl) (by kernel_rfl) (by kernel_rfl) (by kernel_rfl) (by kernel_rfl) (by kernel_rfl) )
    (of_decide_eq_true (by kernel_rfl)) (by unfold Func.isWrapper; first | (rw [if_pos (by decide +kernel)]; kernel_rfl) | (rw [if_neg (by decide +kernel)]; exact ⟨rfl, rfl⟩))
    (fun os started H enc _ => lifted os started H enc)
theorem proved : Rows.HeadPutsSaid := over
#print axioms proved
end Go.Proofs.Ytcclmaicdmogjaa.headPuts
namespace Go.Proofs.Ytcclmaicdmogjaa
/-- The row, under a short name, for the claim. -/
theorem headPuts_holds : Rows.HeadPutsSaid := headPuts.proved
end Go.Proofs.Ytcclmaicdmogjaa
