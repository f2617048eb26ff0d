-- Written by wip/pr.py over the kit's print
import Derived.Test.YtcclmaicdmogjaaPx0
namespace Go.Proofs.Ytcclmaicdmogjaa.P
open Go.RowKit Go.Proofs.YtcclmaicdmogjaaW.PrintWords Go.Proofs.YtcclmaicdmogjaaW.PrintLast Go.Proofs.YtcclmaicdmogjaaW.PrintMore
attribute [local go_sem] max2_int min2_int max_two min_two max_three min_three max_four min_four   -- for this text's walks alone
set_option linter.unusedVariables false
set_option linter.unusedSimpArgs false

/-! ### be_Put: function 40 (by hand) -/
-- FUNC calamus/be.Put
-- ROUNDS no
-- MAKES yes
-- INFO uint8
def be_Put.f (a0 : Int) (a1 : Int) : Option (List Int) := if inI a0 ∧ inI a1 then some (putB a0 (widthB a1)) else none
set_option maxHeartbeats 8000000 in
set_option maxRecDepth 100000 in
theorem be_Put.calls (a0 : Int) (a1 : Int) (r : List Int) (w : World) (h : be_Put.f a0 a1 = some r) :
    Calls Try.prog 40 #[.int .i64 a0, .int .i64 a1] w fun e w' => ∃ v0_ : Value, e = .returned (v0_) ∧ Kd.R (Kd.int .u8) 5 w' w.heap.size (fun _ => True) v0_ r ∧ Below w.heap.size w w' := by
  unfold be_Put.f at h
  split at h
  case isFalse => cases h
  rename_i hg
  obtain ⟨⟨hi01, hi02⟩, ⟨hi11, hi12⟩⟩ := hg
  have HR := Aside0.mk (Option.some.inj h)
  clear h
  have HB := Aside0.mk (Below.refl w.heap.size w)
  obtain ⟨j, hj⟩ : ∃ j : Int, (if 8 < a1 then 8 else a1) = j := ⟨_, rfl⟩
  obtain ⟨W, hW⟩ : ∃ W : Nat, (if 0 < j then j else 0) = (W : Int) := ⟨(if 0 < j then j else 0).toNat, by split <;> omega⟩
  have HW := Aside0.mk (show widthB a1 = W by unfold widthB; rw [← hj] at hW; revert hW; (repeat' split) <;> omega)
  have hW8 : W ≤ 8 := by rw [← hj] at hW; revert hW; (repeat' split) <;> omega
  go_enter Try.func40, Try.ntmps40
  go_wp2_with (first | ((with_reducible refine gate_dst (N := 11) rfl ?_); refine Kd.R_make (Kd.int .u8) _ 5 rfl (N := 11) rfl 23 _ _ rfl (W : Int) rfl rfl Try.underlying23 (.int .u8 0) 1 info5 rfl (by decide) (by omega) 0 (ok := fun _ => True) (okp := fun _ => True) rfl (fun _ hk => hk) trivial (by omega) (by omega) (Below.refl _ _) (Nat.le_refl _) ?_; intro v188 w7 ho8 hb hg_ hnew_; clear hg_ hnew_; have HO := Aside0.mk (Kd.R_lower ho8 (below_size HB.out)); have HB2 := Aside0.mk (below_step HB.out hb); clear HB hb ho8))
  obtain ⟨xs, hxs⟩ : ∃ xs : List Int, xs = List.replicate W 0 := ⟨_, rfl⟩
  have HO1 : Aside0 (Kd.R (Kd.int .u8) 5 w7 w.heap.size (fun _ => True) v188 xs) := ⟨by rw [hxs]; exact HO.out⟩
  clear HO
  have HX := Aside0.mk hxs
  clear hxs
  by_cases hW0 : W = 0
  · subst hW0
    refine wp_loop_rounds 1 ?_
    rw [rounds_succ]
    go_wp2
    go_ret
    refine ⟨_, rfl, ?_, HB2.out⟩
    have := HO1.out
    rw [← HR.out, HW.out]
    rw [HX.out] at this
    simpa [putB] using this
  · obtain ⟨g, cap, hv, hgb, hgl, hgc⟩ := Kd.R_form HO1.out (by rw [HX.out]; simp; omega)
    have hlen : xs.length = W := by rw [HX.out]; simp
    rw [hlen] at hv
    subst hv
    have HG := Aside0.mk hgb
    clear hgb hgl hgc hlen
    go_loopg [6, 13] W (fun kq v6 v13 w' => ∃ (k : Nat), v13 = .int .i64 (k : Int) ∧ k ≤ W ∧ Aside0 (W - k = kq) ∧ Aside0 (Kd.R (Kd.int .u8) 5 w' w.heap.size (fun _ => True) (.slice (some ⟨g, 0, none⟩) W cap) (List.replicate (W - k) 0 ++ putB a0 k)) ∧ Aside0 (Below w.heap.size w w'))
    case atStart => exact ⟨0, rfl, by omega, ⟨rfl⟩, ⟨by have := HO1.out; rw [HX.out] at this; simpa [putB] using this⟩, HB2⟩
    case round =>
      obtain ⟨k, rfl, hk, HK, HO2, HB3⟩ := hrel
      by_cases hkl : k < W
      · obtain ⟨hx, hf⟩ := Kd.R_celln 0 HO2.out ((W - 1 - k : Nat) : Int) (by omega) (by omega)
        have hx2 : ∃ y, wr.cell? ⟨g, W - 1 - k, none⟩ = some (.int .u8 y) := ⟨_, by simpa using hx⟩
        have hf2 : wr.frozen? ⟨g, W - 1 - k, none⟩ = false := by simpa using hf
        clear hx hf
        obtain ⟨y, hx⟩ := hx2
        go_wp2
        go_roundg (W - (k + 1))
        case measure => have := HK.out; omega
        case rel => exact ⟨k + 1, by go_num, by omega, ⟨rfl⟩, ⟨put_stored HO2.out hkl rfl⟩, ⟨below_set HB3.out HG.out⟩⟩
      · obtain rfl : k = W := by omega
        go_wp2
        go_ret
        refine ⟨_, rfl, ?_, HB3.out⟩
        have := HO2.out
        rw [← HR.out, HW.out]
        simpa using this


end Go.Proofs.Ytcclmaicdmogjaa.P
