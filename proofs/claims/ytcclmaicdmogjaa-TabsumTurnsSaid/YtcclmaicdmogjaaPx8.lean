-- Written by wip/pr.py over the kit's print
import Derived.Test.YtcclmaicdmogjaaPx0
import Derived.Test.YtcclmaicdmogjaaPx7
namespace Go.Proofs.Ytcclmaicdmogjaa.P
open Go.RowKit Go.Proofs.YtcclmaicdmogjaaW.PrintWords Go.Proofs.YtcclmaicdmogjaaW.PrintLast Go.Proofs.YtcclmaicdmogjaaW.PrintMore
attribute [local go_sem] max2_int min2_int max_two min_two max_three min_three max_four min_four   -- for this text's walks alone
set_option linter.unusedVariables false
set_option linter.unusedSimpArgs false

/-! ### calamusref03_More: function 30 -/
def calamusref03_More.f (k : Nat) (a0 : Int) (l1 : List Int) : Option (Int) := (calamusref03_Sum.f k l1).bind fun t115 => (some ((Int.tmod (IntKind.u64.wrap ((IntKind.u64.wrap (a0)) + (IntKind.u64.wrap (t115)))) 4294967296) % 4294967296))
theorem calamusref03_More.mono : ∀ a0 a1 k, LeO (calamusref03_More.f k a0 a1) (calamusref03_More.f (k + 1) a0 a1) := by
  intro a0 a1 k
  unfold calamusref03_More.f
  repeat' first
      | (with_reducible exact calamusref03_Sum.mono _ _)
      | (with_reducible exact LeO.refl _)
      | (with_reducible exact LeO.none _)
      | (with_reducible refine LeO.ite ?_ ?_)
      | (with_reducible refine LeO.bind ?_ (fun _ => ?_))
      | exact calamusref03_Sum.mono _ _
      | exact LeO.none _
      | refine LeO.ite ?_ ?_
      | refine LeO.bind ?_ (fun _ => ?_)
set_option maxHeartbeats 8000000 in
set_option maxRecDepth 100000 in
theorem calamusref03_More.calls (k : Nat) (a0 : Int) (A1 : Option Addr) (c1 : Nat) (l1 : List Int) (r : Int) (w : World) (hr1 : Kd.C (Kd.int .u8) w A1 l1.length l1) (hc1 : l1.length ≤ c1) (h : calamusref03_More.f k a0 l1 = some r) :
    Calls Try.prog 30 #[.int .u32 a0, .slice A1 l1.length c1] w fun e w' => e = .returned (.int .u32 r) ∧ Drawn0 w w' := by
  have HR1 := Aside0.mk hr1
  have HC1 := Aside0.mk hc1
  clear hr1 hc1
  have H : ((calamusref03_Sum.f k l1).bind fun t115 => (some ((Int.tmod (IntKind.u64.wrap ((IntKind.u64.wrap (a0)) + (IntKind.u64.wrap (t115)))) 4294967296) % 4294967296))) = some r := h
  clear h
  replace H := Option.bind_eq_some_iff.mp H
  obtain ⟨t115, A30, H⟩ := H
  replace H : (some ((Int.tmod (IntKind.u64.wrap ((IntKind.u64.wrap (a0)) + (IntKind.u64.wrap (t115)))) 4294967296) % 4294967296)) = some r := H
  have A3 := Aside0.mk A30
  clear A30
  obtain rfl := Option.some.inj H
  go_enter Try.func30, Try.ntmps30
  go_wp2_with (first | ((with_reducible refine gate_callee (f := 28) rfl ?_); refine goesL_ (some 8) rfl rfl Try.func28 (by kernel_rfl) rfl #[.slice A1 l1.length c1] rfl (by (try simp only [List.map_toArray, List.map_cons, List.map_nil]); first | done | rfl | (simp only [List.length_drop, List.length_take]; rfl)) ?_; (with_reducible refine (calamusref03_Sum.calls k _ _ l1 t115 _ ?side1 ?side2 A3.out).mono ?_); (case side1 => repeat (first | exact HR1.out | (with_reducible refine Kd.C_alloc ?_ _) | (with_reducible refine Kd.C_drewN ?_ _) | (with_reducible refine Kd.C_drew ?_))); (case side2 => exact HC1.out); rintro e w' ⟨rfl, ⟨nd, rfl⟩⟩; refine ⟨_, rfl, ?_⟩))
  go_ret
  exact ⟨by first | rfl | (simp; done) | (simp [*]; done), by repeat (first | exact Drawn0.refl _ | apply Drawn0.step)⟩

end Go.Proofs.Ytcclmaicdmogjaa.P
