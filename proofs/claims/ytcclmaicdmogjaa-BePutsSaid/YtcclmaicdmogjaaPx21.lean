-- Written by wip/pr.py over the kit's print
import Derived.Test.YtcclmaicdmogjaaPx0
namespace Go.Proofs.Ytcclmaicdmogjaa.P
open Go.RowKit Go.Proofs.YtcclmaicdmogjaaW.PrintWords Go.Proofs.YtcclmaicdmogjaaW.PrintLast Go.Proofs.YtcclmaicdmogjaaW.PrintMore
attribute [local go_sem] max2_int min2_int max_two min_two max_three min_three max_four min_four   -- for this text's walks alone
set_option linter.unusedVariables false
set_option linter.unusedSimpArgs false

/-! ### be_Pad: function 45 (by hand) -/
-- FUNC calamus/be.Pad
-- ROUNDS no
-- MAKES yes
-- INFO uint8
/-- A number of noughts, bounded to 1 .. 16, up to which is padded. -/
def padTo (a : Int) : Int := max 1 (min a 16)
def padN (n : Nat) (a : Int) : Nat := (((n : Int) + padTo a - 1) / padTo a * padTo a).toNat
def be_Pad.f (l0 : List Int) (a1 : Int) : Option (List Int) := if l0.length ≤ 140737488355328 ∧ inI a1 then some (l0 ++ List.replicate (padN l0.length a1 - l0.length) 0) else none
theorem pad_le (n : Nat) (t : Int) (h1 : 1 ≤ t) (h2 : t ≤ 16) : (n : Int) ≤ ((n : Int) + t - 1) / t * t ∧ ((n : Int) + t - 1) / t * t ≤ n + 15 := by
  have h := Int.emod_add_mul_ediv ((n : Int) + t - 1) t
  have h3 := Int.emod_nonneg ((n : Int) + t - 1) (show t ≠ 0 by omega)
  have h4 := Int.emod_lt_of_pos ((n : Int) + t - 1) (show 0 < t by omega)
  rw [Int.mul_comm t] at h
  omega
set_option maxHeartbeats 8000000 in
set_option maxRecDepth 100000 in
theorem be_Pad.calls (A0 : Option Addr) (c0 : Nat) (l0 : List Int) (a1 : Int) (r : List Int) (w : World) (hr0 : Kd.C (Kd.int .u8) w A0 l0.length l0) (hc0 : l0.length ≤ c0) (h : be_Pad.f l0 a1 = some r) :
    Calls Try.prog 45 #[.slice A0 l0.length c0, .int .i64 a1] w fun e w' => ∃ v0_ : Value, e = .returned (v0_) ∧ Kd.R (Kd.int .u8) 5 w' w.heap.size (fun _ => True) v0_ r ∧ Below w.heap.size w w' := by
  unfold be_Pad.f at h
  split at h
  case isFalse => cases h
  rename_i hg
  obtain ⟨hmax, hi1, hi2⟩ := hg
  have HR := Aside0.mk (Option.some.inj h)
  have HC := Aside0.mk hr0
  have HL := Aside0.mk hc0
  clear h hr0 hc0
  have HB := Aside0.mk (Below.refl w.heap.size w)
  obtain ⟨j, hj⟩ : ∃ j : Int, (if 16 < a1 then 16 else a1) = j := ⟨_, rfl⟩
  obtain ⟨t, ht⟩ : ∃ t : Int, (if 1 < j then j else 1) = t := ⟨_, rfl⟩
  have HT := Aside0.mk (show padTo a1 = t by unfold padTo; rw [← hj] at ht; revert ht; (repeat' split) <;> omega)
  have ht1 : 1 ≤ t := by rw [← hj] at ht; revert ht; (repeat' split) <;> omega
  have ht2 : t ≤ 16 := by rw [← hj] at ht; revert ht; (repeat' split) <;> omega
  obtain ⟨hle, hge⟩ := pad_le l0.length t ht1 ht2
  obtain ⟨q, hq⟩ : ∃ q : Int, ((l0.length : Int) + t - 1) / t = q := ⟨_, rfl⟩
  rw [hq] at hle hge
  obtain ⟨W, hW⟩ : ∃ W : Nat, q * t = (W : Int) := ⟨(q * t).toNat, by omega⟩
  rw [hW] at hle hge
  have HW := Aside0.mk (show padN l0.length a1 = W by unfold padN; rw [HT.out, hq, hW]; rfl)
  have hq0 : 0 ≤ q ∧ q ≤ 140737488355344 := by
    have : q ≤ q * t ∨ q < 0 := by
      rcases (show q < 0 ∨ 0 ≤ q by omega) with h | h
      · exact .inr h
      · refine .inl ?_
        have := Int.mul_le_mul_of_nonneg_left ht1 h
        omega
    have : 0 ≤ q := by rw [← hq]; exact Int.ediv_nonneg (by omega) (by omega)
    omega
  obtain ⟨hq1, hq2⟩ := hq0
  go_enter Try.func45, Try.ntmps45
  go_wp2_with (first | ((with_reducible refine gate_dst (N := 18) rfl ?_); refine Kd.R_make (Kd.int .u8) _ 5 rfl (N := 18) rfl 23 _ _ rfl (W : Int) rfl rfl Try.underlying23 (.int .u8 0) 1 info5 rfl (by decide) (by omega) 0 (ok := fun _ => True) (okp := fun _ => True) rfl (fun _ hk => hk) trivial (by omega) (by omega) (Below.refl _ _) (Nat.le_refl _) ?_; intro v188 w7 ho8 hb hg_ hnew_; clear hg_ hnew_; have HO := Aside0.mk (Kd.R_lower ho8 (below_size HB.out)); have HC2 := Aside0.mk (Kd.C_below HC.out hb); have HB2 := Aside0.mk (below_step HB.out hb); clear HB HC hb ho8) | ((with_reducible refine gate_builtin (b := .copy) (xs := #[.tmp 19, .tmp 20]) rfl ?_); refine Kd.R_copy (0 : Int) w.heap.size rfl (.tmp 19) (.tmp 20) 23 23 5 rfl Try.underlying23 (by kernel_rfl) v188 (List.replicate W 0) l0 A0 l0.length c0 (fun _ => True) rfl rfl HO.out HC2.out HB2.out (below_size HB2.out) ?_; intro w9 ho9 hb9 _; have HO9 := Aside0.mk ho9; have HB9 := Aside0.mk hb9; clear ho9 hb9 HO HB2))
  go_ret
  refine ⟨_, rfl, ?_, HB9.out⟩
  have h9 := HO9.out
  rw [← HR.out, HW.out]
  rw [List.length_replicate, Nat.min_eq_left (by omega), List.take_length, List.drop_replicate] at h9
  exact h9


end Go.Proofs.Ytcclmaicdmogjaa.P
