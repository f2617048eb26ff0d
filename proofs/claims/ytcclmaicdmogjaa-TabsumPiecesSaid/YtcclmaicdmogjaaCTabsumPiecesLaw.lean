/- of pieces of whole words and a last one the sum, gone on with piece by piece, is that of all, at every at most 50 pieces of at most 2000 bytes and a last one of at most 5000 (beyond, the law answers true). -/
import Derived.Test.YtcclmaicdmogjaaPj
import Derived.Test.YtcclmaicdmogjaaRows
import Derived.WalkKit
import Derived.ProofKit
import Derived.OpenShut
import Derived.ShutString
import Derived.ChangeOld
import Derived.Below
import Derived.SizedLaws
import Derived.Test.YtcclmaicdmogjaaWSized
import Derived.Test.YtcclmaicdmogjaaCTabsumPieces0
/- of pieces of whole words and a last one the sum, gone on with piece by piece, is that of all, at every at most 50 pieces of at most 2000 bytes and a last one of at most 5000 (beyond, the law answers true). -/
-- Written by wip/pr.py: row by hand
namespace Go.Proofs.Ytcclmaicdmogjaa.tabsumPieces
open Go.ChangeShapes Go.WideShapes Go.ChangeAt Go.RowKit
open Go.ChangeMaps (open_string shut_string)
set_option linter.unusedVariables false
theorem own : ownKnob Try.prog.godebug = none := by kernel_rfl
theorem laidOut : laidOutB Try.prog = true := by kernel_rfl
open Go.Proofs.YtcclmaicdmogjaaW.PrintWords P
-- SAYS of pieces of whole words and a last one the sum, gone on with piece by piece, is that of all, at every at most 50 pieces of at most 2000 bytes and a last one of at most 5000 (beyond, the law answers true).
set_option maxHeartbeats 1000000 in
set_option maxRecDepth 100000 in
theorem contract (H : Type) (enc : TypeId × Value → H) (W : World) (base : Nat) (args : Array Value) (ds gs : List (DataW H)) (before : List MemPlace)
    (hval0 : ∀ (j : Nat) t v, Try.f4.params[j]? = some t → args[j]? = some v → Value.okWide Try.prog W .any base t v)
    (hW : DataW.Whole enc Try.prog Try.f4.params.toList Rows.tabsumPiecesSpec.vars false W args.toList ds gs before)
    (hsz0 : (DataW.weightsEach Try.prog (Try.f4.params.toList ++ Rows.tabsumPiecesSpec.plain.varTypes Try.prog) (ds ++ gs)).all (· ≤ reachBytes) = true) :
    Calls Try.prog 4 args W fun e W' => ∃ v, e = .returned v ∧ Rows.tabsumPiecesSpec.post enc Try.prog Try.f4 false true false false W args v W' := by
  have hval : ∀ (j : Nat) t v, Try.f4.params[j]? = some t → args[j]? = some v → Value.okWide Try.prog W .any base t v := hval0
  have hsz : (DataW.weightsEach Try.prog (Try.f4.params.toList ++ Rows.tabsumPiecesSpec.plain.varTypes Try.prog) (ds ++ gs)).all (· ≤ reachBytes) = true := hsz0
  have hW' := hW
  obtain ⟨p, q, hA0, hV, rfl, hfz, hnd⟩ := hW
  have hA : DataW.TrodAll enc Try.prog W 0 (fun _ => true) true Try.f4.params.toList args.toList ds p := hA0
  rw [Try.params4] at hA hval hsz
  obtain ⟨v0, vs0, d0, ds0, p0, q0, hargs, rfl, rfl, h0, r0⟩ := trodAll_cons hA
  obtain ⟨v1, vs1, d1, ds1, p1, q1, rfl, rfl, rfl, h1, r1⟩ := trodAll_cons r0
  obtain ⟨rfl, rfl, rfl⟩ := trodAll_nil r1
  obtain rfl : args = #[v0, v1] := by cases args; simp_all
  obtain ⟨rfl, rfl⟩ := trodVars_none hV
  obtain ⟨A0, c0, l0, rfl, hc0, hC0, ho0, hs0, hd0⟩ := arg_slice Try.underlying31 (by kernel_rfl) (op_slice Try.underlying23 (by kernel_rfl) (op_int Try.underlying5)) (hval 0 31 v0 rfl rfl) h0
  have y0 : l0.length * 24 ≤ 140737488351232 := by
    rcases hd0 with rfl | ⟨elems, spare, he, hl⟩
    · simp
    · have z := sized_slice hsz (j := 0) (t := 31) rfl (by rw [← he]; rfl) Try.underlying31
      rw [show Try.prog.bytesOf 23 = 24 by kernel_rfl, hl] at z
      have hr : reachBytes ≤ 140737488351232 := by decide
      rw [Nat.add_mul] at z
      omega
  obtain ⟨A1, c1, l1, rfl, hc1, hC1, ho1, hs1, hd1⟩ := arg_slice Try.underlying23 (by kernel_rfl) (op_int Try.underlying5) (hval 1 23 v1 rfl rfl) h1
  have y1 : l1.length * 1 ≤ 140737488351232 := by
    rcases hd1 with rfl | ⟨elems, spare, he, hl⟩
    · simp
    · have z := sized_slice hsz (j := 1) (t := 23) rfl (by rw [← he]; rfl) Try.underlying23
      rw [show Try.prog.bytesOf 5 = 1 by kernel_rfl, hl] at z
      have hr : reachBytes ≤ 140737488351232 := by decide
      rw [Nat.add_mul] at z
      omega
  have hz := P.pieces_all l0 l1 (fun y hy => P.bytes_of_wf (ho0 y hy)) (P.bytes_of_wf ho1)
  refine (P.calamuslaw03_TabsumPieces.calls 60 _ _ l0 _ _ l1 true W hC0 hc0 hC1 hc1 hz).mono fun e W' ⟨he, bel⟩ => ?_
  subst he
  exact ⟨_, rfl, _, _, _, [], _, [], hW', trodAll_mk1 (shut_bool Try.underlying4 _), (trodAll_cons_mk (Below.trod laidOut (by kernel_rfl) (of_decide_eq_true (by kernel_rfl)) h0 bel (trod_lt_ h0)) (trodAll_cons_mk (Below.trod laidOut (by kernel_rfl) (of_decide_eq_true (by kernel_rfl)) h1 bel (trod_lt_ h1)) trodAll_mk0)), rfl, bel.frame _, fun h => by cases h⟩
set_option maxRecDepth 100000 in
theorem lifted (os : Os) (started : os.Started) (H : Type) (enc : TypeId × Value → H) :
    ReturnsInHanded {} Try.checked os 4 .any (Rows.tabsumPiecesSpec.pre6 enc Try.prog Try.f4 Rows.tabsumPiecesRow.domain false) (Rows.tabsumPiecesSpec.post enc Try.prog Try.f4 false true false false) := by
  refine returnsInHanded_of_change_sized (C := Try.checked) own started (by kernel_rfl) Try.func4
    (ChangeSpec.witness6 (enc := enc) (C := Try.checked) false ⟨#[], #[.slice none 0 0, .slice none 0 0], []⟩ 8 (by kernel_rfl) (by kernel_rfl) (by kernel_rfl) (by kernel_rfl)) ?_
  intro W base args ds gs before hval hW _ hsz _
  exact contract H enc W base args ds gs before hval hW hsz
theorem over : Rows.tabsumPiecesRow.holds Try.pinned (OpenSpec.ofChange Rows.tabsumPiecesSpec) :=
  OpenClaim.holds_of_wide 4 Try.f4 rfl rfl rfl rfl rfl rfl rfl ⟨rfl, rfl, rfl, rfl, rfl⟩ rfl rfl rfl rfl rfl (by kernel_rfl) Try.func4 (Go.Proofs.Ytcclmaicdmogjaa.P.joined_mk (s := Rows.tabsumPiecesSpec) (c := Rows.tabsumPiecesRow) rfl rfl (by kernel_rfl) (by kernel_rfl) (by kernel_rfl) (by kernel_rfl) (by kernel_rfl) (by kernel_rfl) (by kernel_rfl) (by kernel_rfl) (by kernel_rfl) (by kernel_rfl) (by kernel_rfl) (by kernel_rfl) (by kernel_rfl) (by kernel_rfl) (by kernel_rfl) (by kernel_rfl) (by kernel_rfl) (by kernel_rfl) (by kernel_rfl) (by kernel_rfl) (by kernel_rfl) (by kernel_rfl) (by kernel_rfl) (by kernel_rfl) (by kernel_rfl) (by kernel_rfl) (by kernel_rfl) (by kernel_rfl) (by kernel_rfl) )
    (of_decide_eq_true (by kernel_rfl)) (by unfold Func.isWrapper; first | (rw [if_pos (by decide +kernel)]; kernel_rfl) | (rw [if_neg (by decide +kernel)]; exact ⟨rfl, rfl⟩))
    (fun os started H enc _ => lifted os started H enc)
theorem proved : Rows.TabsumPiecesSaid := over
#print axioms proved
end Go.Proofs.Ytcclmaicdmogjaa.tabsumPieces
namespace Go.Proofs.Ytcclmaicdmogjaa
/-- The row, under a short name, for the claim. -/
theorem tabsumPieces_holds : Rows.TabsumPiecesSaid := tabsumPieces.proved
end Go.Proofs.Ytcclmaicdmogjaa
