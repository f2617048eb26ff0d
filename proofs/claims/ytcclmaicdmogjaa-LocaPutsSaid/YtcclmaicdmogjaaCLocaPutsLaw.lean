/- The law LocaPuts. -/
import Derived.Test.YtcclmaicdmogjaaPj
import Derived.Test.YtcclmaicdmogjaaRows
import Derived.WalkKit
import Derived.ProofKit
import Derived.OpenShut
import Derived.ShutString
import Derived.ChangeOld
import Derived.Below
import Derived.SizedLaws
import Derived.Test.YtcclmaicdmogjaaWSized
import Derived.Test.YtcclmaicdmogjaaCLocaPuts1
import Derived.Test.YtcclmaicdmogjaaCLocaPuts2
import Derived.Deep.SlicePairs
import Derived.Deep.Slices
-- Written by wip/pr.py: row by hand
namespace Go.Proofs.Ytcclmaicdmogjaa.locaPuts
open Go.ChangeShapes Go.WideShapes Go.ChangeAt Go.RowKit
open Go.ChangeMaps (open_string shut_string)
set_option linter.unusedVariables false
theorem own : ownKnob Try.prog.godebug = none := by kernel_rfl
theorem laidOut : laidOutB Try.prog = true := by kernel_rfl
open Go.Deep Go.Proofs.YtcclmaicdmogjaaW.PrintWords
set_option maxRecDepth 100000 in
theorem lifted (os : Os) (started : os.Started) (H : Type) (enc : TypeId × Value → H) :
    ReturnsInHanded {} Try.checked os 19 .any (Rows.locaPutsSpec.pre6 enc Try.prog Try.f19 Rows.locaPutsRow.domain false) (Rows.locaPutsSpec.post enc Try.prog Try.f19 false true false false) := by
  refine returnsInHanded_of_change_sized (C := Try.checked) own started (by kernel_rfl) Try.func19
    (ChangeSpec.witness6 (enc := enc) (C := Try.checked) false ⟨#[], #[.slice none 0 0, .int .i64 0], []⟩ 8 (by kernel_rfl) (by kernel_rfl) (by kernel_rfl) (by kernel_rfl)) ?_
  intro W base args ds gs before hval0 hW hcnd hsz0 _
  have hsz : (DataW.weightsEach Try.prog (Try.f19.params.toList ++ Rows.locaPutsSpec.plain.varTypes Try.prog) (ds ++ gs)).all (· ≤ reachBytes) = true := hsz0
  have hval : ∀ (j : Nat) t v, Try.f19.params[j]? = some t → args[j]? = some v → Value.okWide Try.prog W .any base t v := hval0
  have hW' := hW
  obtain ⟨p, q, hA0, hV, rfl, hfz, hnd⟩ := hW
  have hA : DataW.TrodAll enc Try.prog W 0 (fun _ => true) true Try.f19.params.toList args.toList ds p := hA0
  rw [Try.params19] at hA hval hsz
  obtain ⟨v0, vs0, d0, ds0, p0, q0, hargs, rfl, rfl, h0, r0⟩ := trodAll_cons hA
  obtain ⟨v1, vs1, d1, ds1, p1, q1, rfl, rfl, rfl, h1, r1⟩ := trodAll_cons r0
  obtain ⟨rfl, rfl, rfl⟩ := trodAll_nil r1
  obtain rfl : args = #[v0, v1] := by cases args; simp_all
  obtain ⟨rfl, rfl⟩ := trodVars_none hV
  obtain ⟨a0, len0, cap0, rfl⟩ := okWide_slice Try.underlying73 (hval 0 73 v0 rfl rfl)
  have k0 := h0
  have lt0 : ∀ x ∈ p0, x.block < W.heap.size := by obtain ⟨m, hm⟩ := k0; exact DataW.trod_lt m _ _ _ hm
  obtain ⟨z0, hl0, hc0, hC0, hw0, y0⟩ : ∃ zs : List P.S111, zs.length = len0 ∧ len0 ≤ cap0 ∧ Kd.C P.k111 W a0 len0 zs ∧ (∀ x ∈ zs, P.inI x.f0 ∧ P.inI x.f1) ∧ len0 * 16 ≤ 140737488351232 := by
    obtain ⟨fuel, hf⟩ := h0
    rcases open_slice_pairs Try.underlying73 Try.underlying111 (by kernel_rfl) rfl rfl (by kernel_rfl) (by kernel_rfl) hf with ⟨hcs, _⟩ | ⟨a, len, cap, m, n, V0, V1, D0, D1, P0, P1, hcs, _, hl, hm, hmm, hx, hall⟩
    · simp [Value.cells] at hcs
      obtain ⟨rfl, rfl, rfl⟩ := hcs
      exact ⟨[], rfl, Nat.le_refl _, ⟨rfl, by omega, fun h => absurd h (by omega)⟩, fun x hx => by simp at hx, by omega⟩
    · simp [Value.cells] at hcs
      obtain ⟨rfl, rfl, rfl⟩ := hcs
      have hlm : len0 ≤ m := by rw [hmm]; split <;> omega
      have hint : ∀ i, i < len0 → ∃ y : P.S111, V0 i = .int .i64 y.f0 ∧ V1 i = .int .i64 y.f1 ∧ P.inI y.f0 ∧ P.inI y.f1 := fun i hi => by
        obtain ⟨N0, e1, _, e3⟩ := DataW.trod_int Try.underlying3 (hall i (by omega)).2.2.1
        obtain ⟨N1, e4, _, e6⟩ := DataW.trod_int Try.underlying3 (hall i (by omega)).2.2.2
        simp only [List.cons.injEq, and_true] at e1 e4
        exact ⟨⟨N0, N1⟩, e1, e4, P.wf_i64_out e3, P.wf_i64_out e6⟩
      let f : Nat → P.S111 := fun i => if h : i < len0 then (hint i h).choose else ⟨0, 0⟩
      have hf' : ∀ i, i < len0 → V0 i = .int .i64 (f i).f0 ∧ V1 i = .int .i64 (f i).f1 ∧ P.inI (f i).f0 ∧ P.inI (f i).f1 := fun i hi => by
        have := (hint i hi).choose_spec
        simp only [f, dif_pos hi]
        exact this
      refine ⟨(List.range len0).map f, by simp, hl, ⟨by simp, by simp only [maxLen] at hm; omega, fun _ => ⟨a, rfl, fun j p hj => ?_⟩⟩, fun x hx => ?_, ?_⟩
      · have hjl : j < len0 := by
          have := (List.getElem?_eq_some_iff.1 hj).1
          simpa using this
        have hp : f j = p := by
          rw [List.getElem?_map, List.getElem?_range hjl] at hj
          exact Option.some.inj hj
        subst hp
        obtain ⟨g1, g2, _⟩ := hf' j hjl
        obtain ⟨c1, c2, _⟩ := hall j (by omega)
        refine ⟨[.int .i64 (f j).f0, .int .i64 (f j).f1], rfl, P.k111_mk W (f j), fun i u hu => ?_⟩
        match i, hu with
        | 0, hu => rw [← Option.some.inj hu, ← g1]; exact c1
        | 1, hu => rw [← Option.some.inj hu, ← g2]; exact c2
      · obtain ⟨i, hi, rfl⟩ := List.mem_map.1 hx
        exact (hf' i (List.mem_range.1 hi)).2.2
      · obtain ⟨hx, _⟩ := Prod.mk.inj hx
        subst hx
        have z := sized_slice hsz (j := 0) (t := 73) rfl rfl Try.underlying73
        rw [show Try.prog.bytesOf 111 = 16 by kernel_rfl] at z
        simp only [List.length_map, List.length_range] at z
        have hr : reachBytes ≤ 140737488351232 := by decide
        omega
  obtain ⟨a1, rfl, rfl, rfl, w1⟩ := open_int Try.underlying3 (hval 1 3 v1 rfl rfl) h1
  clear hA0 hval0 hsz0 hsz
  subst hl0
  refine (P.calamuslaw06_LocaPuts.calls _ a0 cap0 z0 a1 true W hC0 hc0 (P.locaPuts_all z0 a1 (by omega) hw0 (P.wf_i64_out w1))).mono fun e W' ⟨he, bel⟩ => ?_
  subst he
  exact ⟨_, rfl, _, _, _, [], _, [], hW', trodAll_mk1 (shut_bool Try.underlying4 _), (trodAll_cons_mk (Below.trod laidOut (by kernel_rfl) (of_decide_eq_true (by kernel_rfl)) k0 bel lt0) (trodAll_cons_mk (shut_int Try.underlying3 w1) trodAll_mk0)), rfl, bel.frame _, fun h => by cases h⟩
theorem over : Rows.locaPutsRow.holds Try.pinned (OpenSpec.ofChange Rows.locaPutsSpec) :=
  OpenClaim.holds_of_wide 19 Try.f19 rfl rfl rfl rfl rfl rfl rfl ⟨rfl, rfl, rfl, rfl, rfl⟩ rfl rfl rfl rfl rfl (by kernel_rfl) Try.func19 (Go.Proofs.Ytcclmaicdmogjaa.P.joined_mk (s := Rows.locaPutsSpec) (c := Rows.locaPutsRow) rfl rfl (by kernel_rfl) (by kernel_rfl) (by kernel_rfl) (by kernel_rfl) (by kernel_rfl) (by kernel_rfl) (by kernel_rfl) (by kernel_rfl) (by kernel_rfl) (by kernel_rfl) (by kernel_rfl) (by kernel_rfl) (by kernel_rfl) (by kernel_rfl) (by kernel_rfl) (by kernel_rfl) (by kernel_rfl) (by kernel_rfl) (by kernel_rfl) (by kernel_rfl) (by kernel_rfl) (by kernel_rfl) (by kernel_rfl) (by kernel_rfl) (by kernel_rfl) (by kernel_rfl) (by kernel_rfl) (by kernel_rfl) (by kernel_rfl) )
    (of_decide_eq_true (by kernel_rfl)) (by unfold Func.isWrapper; first | (rw [if_pos (by decide +kernel)]; kernel_rfl) | (rw [if_neg (by decide +kernel)]; exact ⟨rfl, rfl⟩))
    (fun os started H enc _ => lifted os started H enc)
theorem proved : Rows.LocaPutsSaid := over
#print axioms proved
end Go.Proofs.Ytcclmaicdmogjaa.locaPuts
namespace Go.Proofs.Ytcclmaicdmogjaa
/-- The row, under a short name, for the claim. -/
theorem locaPuts_holds : Rows.LocaPutsSaid := locaPuts.proved
end Go.Proofs.Ytcclmaicdmogjaa
