/- where head.Head, head.Maxp and head.Count read what the reference reads, and the bytes stay, at any bytes. The row lists the variable head.places, tied to the program's text. -/
import Derived.Test.YtcclmaicdmogjaaDoorPj
import Derived.Test.YtcclmaicdmogjaaDoorCards
import Derived.Test.YtcclmaicdmogjaaDoorTie
import Derived.WalkKit
import Derived.ProofKit
import Derived.OpenShut
import Derived.ShutString
import Derived.Below
import Derived.SizedLaws
import Derived.Deep.DeepHandedRow
import Derived.Lib.LaidTab
import Derived.JoinedCond
import Derived.Test.YtcclmaicdmogjaaDoorCHeadReads0
import Derived.Test.YtcclmaicdmogjaaDoorCHeadReads2
import Derived.Test.YtcclmaicdmogjaaDoorCHeadReads1
/- where head.Head, head.Maxp and head.Count read what the reference reads, and the bytes stay, at any bytes. The row lists the variable head.places, tied to the program's text. -/
-- Written by wip/pr.py: row by hand
namespace Go.Proofs.YtcclmaicdmogjaaDoor.headReads
open Go.ChangeShapes Go.WideShapes Go.ChangeAt Go.RowKit
open Go.ChangeMaps (open_string shut_string)
open Go.Proofs.YtcclmaicdmogjaaDoorW.PrintWords P
set_option linter.unusedVariables false
theorem own : ownKnob Tryd.prog.godebug = none := by kernel_rfl
theorem laidOut : laidOutB Tryd.prog = true := by kernel_rfl
theorem gTab : Tryd.prog.globalNamed "calamus/head.places" = some 0 := by kernel_rfl
theorem gTabType : (Tryd.prog.globals[0]?).map (·.type) = some 75 := by kernel_rfl
theorem cellsT : Tryd.prog.cellsOf 75 = 7 := by kernel_rfl
theorem cellsE : Tryd.prog.cellsOf 3 = 1 := by kernel_rfl
theorem table {W : World} (h : laidMetH Tryd.prog Rows.headReadsRow.laid W) : Lib.TabIs Tryd.prog W "calamus/head.places" .i64 [4, 6, 8, 10, 12, 28, 30] :=
  Lib.tabIs_of_head (rest := []) gTab gTabType Tryd.underlying75 Tryd.underlying3 cellsE cellsT h
theorem pl_of {W : World} (h : laidMetH Tryd.prog Rows.headReadsRow.laid W) : PL W :=
  ⟨(table h).cell gTab 0 (by decide), (table h).cell gTab 1 (by decide), (table h).cell gTab 2 (by decide), (table h).cell gTab 3 (by decide), (table h).cell gTab 4 (by decide), (table h).cell gTab 5 (by decide), (table h).cell gTab 6 (by decide)⟩
set_option maxHeartbeats 1000000 in
set_option maxRecDepth 100000 in
theorem contract (H : Type) (enc : TypeId × Value → H) (W : World) (base : Nat) (args : Array Value) (ds gs : List (DataW H)) (before : List MemPlace)
    (hval0 : ∀ (j : Nat) t v, Tryd.f5.params[j]? = some t → args[j]? = some v → Value.okWide Tryd.prog W .any base t v)
    (hW : DataW.Whole enc Tryd.prog Tryd.f5.params.toList Rows.headReadsSpec.vars false W args.toList ds gs before) (hL : laidMetH Tryd.prog Rows.headReadsRow.laid W)
    (hsz0 : (DataW.weightsEach Tryd.prog (Tryd.f5.params.toList ++ Rows.headReadsSpec.plain.varTypes Tryd.prog) (ds ++ gs)).all (· ≤ reachBytes) = true) :
    Calls Tryd.prog 5 args W fun e W' => ∃ v, e = .returned v ∧ Rows.headReadsSpec.post enc Tryd.prog Tryd.f5 false true false false W args v W' := by
  have hG := pl_of hL
  have hval : ∀ (j : Nat) t v, Tryd.f5.params[j]? = some t → args[j]? = some v → Value.okWide Tryd.prog W .any base t v := hval0
  have hsz : (DataW.weightsEach Tryd.prog (Tryd.f5.params.toList ++ Rows.headReadsSpec.plain.varTypes Tryd.prog) (ds ++ gs)).all (· ≤ reachBytes) = true := hsz0
  have hW' := hW
  obtain ⟨p, q, hA0, hV, rfl, hfz, hnd⟩ := hW
  have hA : DataW.TrodAll enc Tryd.prog W 0 (fun _ => true) true Tryd.f5.params.toList args.toList ds p := hA0
  rw [Tryd.params5] at hA hval hsz
  obtain ⟨v0, vs0, d0, ds0, p0, q0, hargs, rfl, rfl, h0, r0⟩ := trodAll_cons hA
  obtain ⟨rfl, rfl, rfl⟩ := trodAll_nil r0
  obtain rfl : args = #[v0] := by cases args; simp_all
  obtain ⟨rfl, rfl⟩ := trodVars_none hV
  obtain ⟨A0, c0, l0, rfl, hc0, hC0, ho0, hs0, hd0⟩ := arg_slice Tryd.underlying22 (by kernel_rfl) (op_int Tryd.underlying5) (hval 0 22 v0 rfl rfl) h0
  have y0 : l0.length * 1 ≤ 140737488351232 := by
    rcases hd0 with rfl | ⟨elems, spare, he, hl⟩
    · simp
    · have z := sized_slice hsz (j := 0) (t := 22) rfl (by rw [← he]; rfl) Tryd.underlying22
      rw [show Tryd.prog.bytesOf 5 = 1 by kernel_rfl, hl] at z
      have hr : reachBytes ≤ 140737488351232 := by decide
      rw [Nat.add_mul] at z
      omega
  obtain ⟨⟨v0, v1, v2, v3, v4, v5, v6⟩, hA, hRA⟩ := P.headRead_eq l0 (P.bytes_of_wf ho0) (by omega)
  obtain ⟨⟨m0, m1, m2, m3, m4, m5, m6, m7⟩, hM, hRM⟩ := P.maxpRead_eq l0 (P.bytes_of_wf ho0) (by omega)
  obtain ⟨⟨n0, n1⟩, hN, hRN⟩ := P.countRead_eq l0 (P.bytes_of_wf ho0) (by omega)
  refine (P.headReads_walk 20 _ _ l0 v0 v1 v2 v3 v4 v5 v6 m0 m1 m2 m3 m4 m5 m6 m7 n0 n1 W hG hC0 hc0 (by omega) ⟨hA⟩ ⟨hM⟩ ⟨hN⟩ ⟨hRA⟩ ⟨hRM⟩ ⟨hRN⟩).mono fun e W' ⟨he, bel⟩ => ?_
  subst he
  exact ⟨_, rfl, _, _, _, [], _, [], hW', trodAll_mk1 (shut_bool Tryd.underlying4 _), (trodAll_cons_mk (Below.trod laidOut (by kernel_rfl) (of_decide_eq_true (by kernel_rfl)) h0 bel (trod_lt_ h0)) trodAll_mk0), rfl, bel.frame _, fun h => by cases h⟩
noncomputable def laidWorld (os : Os) : World :=
  { World.holding Tryd.prog os ⟨#[], #[], []⟩ with heap := (World.holding Tryd.prog os ⟨#[], #[], []⟩).heap.modify 0 fun
      | .cells _ t frozen => .cells #[.int .i64 4, .int .i64 6, .int .i64 8, .int .i64 10, .int .i64 12, .int .i64 28, .int .i64 30] t frozen
      | o => o }
theorem laid_met (os : Os) : laidMet Tryd.prog Rows.headReadsRow.laid ((laidWorld os).forCall (fun _ _ => 0) ⟨#[], #[.slice none 0 0], []⟩).memory :=
  laidMet_of_run' 8 (by kernel_rfl) (by kernel_rfl)
theorem reads (os : Os) {H : Type} (enc : TypeId × Value → H) : ∃ places, DataW.whole enc Tryd.prog ((laidWorld os).forCall (fun _ _ => 0) ⟨#[], #[.slice none 0 0], []⟩).memory Tryd.f5.params.toList Rows.headReadsSpec.vars false (#[.slice none 0 0] : Array Value).toList 8 = some ([.nil], [], places) :=
  ⟨[], by kernel_rfl⟩
set_option maxRecDepth 100000 in
theorem lifted (os : Os) (started : os.Started) (H : Type) (enc : TypeId × Value → H) (F : Stop.Interp) :
    ReturnsInHanded {} Tryd.checked os 5 .any ((OpenSpec.ofChange Rows.headReadsSpec).preRow enc Tryd.prog Tryd.f5 Rows.headReadsRow.domain false Rows.headReadsRow.laid) (((OpenSpec.ofChange Rows.headReadsSpec).at F).post enc Tryd.prog Tryd.f5 false true false false) := by
  obtain ⟨places, hx⟩ := reads os enc
  refine returnsInHanded_of_row (C := Tryd.checked) (s := OpenSpec.ofChange Rows.headReadsSpec) own started (by kernel_rfl) Tryd.func5
    (witness_row_at (enc := enc) (C := Tryd.checked) false (laidWorld os) #[.slice none 0 0] rfl (by kernel_rfl) (by kernel_rfl) (by kernel_rfl)
      (OpenSpec.preRow_of_cond 8 hx (by kernel_rfl) (fun k hk => by cases hk) (by kernel_rfl) (laid_met os))) ?_
  intro W base args ds gs before hval hW hcond hx1 hx2 hL hx3 hx4
  exact contract H enc W base args ds gs before hval hW hL (by first | exact hx1 | exact hx2 | exact hx3 | exact hx4)
theorem said : Rows.HeadReadsSaid :=
  OpenClaim.holds_of_cond 5 Tryd.f5 rfl rfl rfl rfl rfl rfl rfl ⟨rfl, rfl, rfl, rfl, rfl⟩ rfl rfl rfl rfl rfl (by kernel_rfl) Tryd.func5 (Go.Proofs.YtcclmaicdmogjaaDoor.P.joined_mk (s := (OpenSpec.ofChange Rows.headReadsSpec).bare) (c := Rows.headReadsRow) rfl rfl (by kernel_rfl) (by kernel_rfl) (by kernel_rfl) (by kernel_rfl) (by kernel_rfl) (by kernel_rfl) (by kernel_rfl) (by kernel_rfl) (by kernel_rfl) (by kernel_rfl) (by kernel_rfl) (by kernel_rfl) (by kernel_rfl) (by kernel_rfl) (by kernel_rfl) (by kernel_rfl) (by kernel_rfl) (by kernel_rfl) (by kernel_rfl) (by kernel_rfl) (by kernel_rfl) (by kernel_rfl) (by kernel_rfl) (by kernel_rfl) (by kernel_rfl) (by kernel_rfl) (by kernel_rfl) (by kernel_rfl) (by kernel_rfl) )
    (of_decide_eq_true (by kernel_rfl)) (by unfold Func.isWrapper; first | (rw [if_pos (by decide +kernel)]; kernel_rfl) | (rw [if_neg (by decide +kernel)]; exact ⟨rfl, rfl⟩))
    (fun os started H enc _ F => by rw [OpenClaim.pre_eq_preRow]; exact lifted os started H enc F)
theorem plain (f : FuncId) (fn : Func) (hf : Tryd.pinned.checked.prog.funcNamed "calamus/calamuslaw05.HeadReads" = some f) (hfn : Tryd.pinned.checked.prog.funcs[f]? = some fn) :
    false = Tryd.pinned.checked.prog.looks [] ∧ ∀ (j : Nat) t, fn.params[j]? = some t → Tryd.pinned.checked.prog.wantsStandIn t = false := by
  obtain rfl : f = 5 := Option.some.inj ((show Tryd.prog.funcNamed "calamus/calamuslaw05.HeadReads" = some 5 by kernel_rfl).symm.trans hf) |>.symm
  obtain rfl : fn = Tryd.f5 := (Option.some.inj (Tryd.func5.symm.trans hfn)).symm
  refine ⟨by kernel_rfl, fun j t ht => ?_⟩
  rw [Tryd.params5] at ht
  have hm : t ∈ (#[22] : Array TypeId) := Array.mem_of_getElem? ht
  simp only [List.mem_toArray, List.mem_cons, List.not_mem_nil, or_false] at hm
  rcases hm with rfl
  · exact (show Tryd.prog.wantsStandIn 22 = false by kernel_rfl)
theorem card : Rows.HeadReadsCardSaid :=
  Claim7.holds_tied_plain_at .later [] _ _ _ _ said (fun _ h => by cases h) (by kernel_rfl) (fun _ h => by cases h) headReads_row_tie rfl ⟨rfl, rfl⟩ (by kernel_rfl) rfl plain (by kernel_rfl)
end Go.Proofs.YtcclmaicdmogjaaDoor.headReads
namespace Go.Proofs.YtcclmaicdmogjaaDoor
theorem headReads_holds : Rows.HeadReadsCardSaid := headReads.card
end Go.Proofs.YtcclmaicdmogjaaDoor
#print axioms Go.Proofs.YtcclmaicdmogjaaDoor.headReads_holds
