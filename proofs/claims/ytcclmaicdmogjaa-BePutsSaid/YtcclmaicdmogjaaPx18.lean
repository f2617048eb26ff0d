-- Written by wip/pr.py over the kit's print
import Derived.Test.YtcclmaicdmogjaaPx0
import Derived.Test.YtcclmaicdmogjaaPx17
namespace Go.Proofs.Ytcclmaicdmogjaa.P
open Go.RowKit Go.Proofs.YtcclmaicdmogjaaW.PrintWords Go.Proofs.YtcclmaicdmogjaaW.PrintLast Go.Proofs.YtcclmaicdmogjaaW.PrintMore
attribute [local go_sem] max2_int min2_int max_two min_two max_three min_three max_four min_four   -- for this text's walks alone
set_option linter.unusedVariables false
set_option linter.unusedSimpArgs false

/-! ### be_U: function 36 (by hand) -/
-- FUNC calamus/be.U
-- ROUNDS no
-- MAKES no
-- INFO uint8
def be_U.f (l0 : List Int) (a1 : Int) (a2 : Int) : Option (Int × Int) :=
  if isBytes l0 ∧ inI a1 ∧ inI a2 then (if a2 < 1 ∨ a2 > 4 then some (0, 2) else if 0 ≤ a1 ∧ a1 + a2 ≤ l0.length then some (pre (l0.drop a1.toNat) a2.toNat, 0) else some (0, 3)) else none
theorem be_there_eq (l0 : List Int) (a1 a2 : Int) (hm : l0.length ≤ 9223372036854775807) (h1 : inI a1) (h2 : 0 ≤ a2) : be_there.f l0 a1 a2 = some (decide (0 ≤ a1 ∧ a1 + a2 ≤ l0.length)) := by
  unfold inI at h1
  unfold be_there.f
  by_cases c1 : a1 ≥ 0
  · rw [if_pos c1, if_pos (by omega)]
    by_cases c2 : a1 ≤ (l0.length : Int)
    · rw [if_pos c2, IntWalk.wrap64_in _ ⟨by omega, by omega⟩]
      congr 1
      rw [decide_eq_decide]; omega
    · rw [if_neg c2]; simp; omega
  · rw [if_neg c1]; simp; omega
set_option maxHeartbeats 8000000 in
set_option maxRecDepth 100000 in
theorem be_U.calls (A0 : Option Addr) (c0 : Nat) (l0 : List Int) (a1 : Int) (a2 : Int) (r1 : Int) (r2 : Int) (w : World) (hr0 : Kd.C (Kd.int .u8) w A0 l0.length l0) (hc0 : l0.length ≤ c0) (h : be_U.f l0 a1 a2 = some (r1, r2)) :
    Calls Try.prog 36 #[.slice A0 l0.length c0, .int .i64 a1, .int .i64 a2] w fun e w' => e = .returned (.tuple #[.int .i64 r1, .int .i64 r2]) ∧ Drawn0 w w' := by
  have HC := Aside0.mk hr0
  have HL := Aside0.mk hc0
  have hmax : l0.length ≤ 9223372036854775807 := Kd.C_max hr0
  clear hr0 hc0
  unfold be_U.f at h
  split at h
  case isFalse => cases h
  rename_i hg
  obtain ⟨hb, hi1, hi2⟩ := hg
  have HB := Aside0.mk hb
  have HT := fun h2 => be_there_eq l0 a1 a2 hmax hi1 h2
  have HI := Aside0.mk hi1
  unfold inI at hi1 hi2
  obtain ⟨hi11, hi12⟩ := hi1
  obtain ⟨hi21, hi22⟩ := hi2
  clear hb
  by_cases hlo : a2 < 1
  · rw [if_pos (.inl hlo)] at h
    simp only [Option.some.injEq, Prod.mk.injEq] at h
    obtain ⟨rfl, rfl⟩ := h
    clear HT
    go_enter Try.func36, Try.ntmps36
    go_wp2
    go_ret2
    exact ⟨rfl, Drawn0.refl _⟩
  by_cases hhi : a2 > 4
  · rw [if_pos (.inr hhi)] at h
    simp only [Option.some.injEq, Prod.mk.injEq] at h
    obtain ⟨rfl, rfl⟩ := h
    clear HT
    have hhi' : 4 < a2 := hhi
    go_enter Try.func36, Try.ntmps36
    go_wp2
    go_ret2
    exact ⟨rfl, Drawn0.refl _⟩
  rw [if_neg (by omega)] at h
  have hhi' : a2 ≤ 4 := by omega
  have hlo' : 1 ≤ a2 := by omega
  by_cases hth : 0 ≤ a1 ∧ a1 + a2 ≤ l0.length
  · rw [if_pos hth] at h
    have HT' := Aside0.mk (HT (by omega))
    clear HT
    rw [show decide (0 ≤ a1 ∧ a1 + a2 ≤ (l0.length : Int)) = true from decide_eq_true hth] at HT'
    obtain ⟨hth1, hth2⟩ := hth
    simp only [Option.some.injEq, Prod.mk.injEq] at h
    obtain ⟨hr, rfl⟩ := h
    obtain ⟨A', l', c', hcut, hC', hL', HE⟩ := C_midc (P := Try.prog) (k := .u8) 23 5 Try.underlying23 (info_parts info5).choose_spec.1 (info_parts info5).choose_spec.2.2.1 A0 c0 l0 a1 (a1 + a2) hth1 (by omega) hth2 HL.out
    have HLE := Aside0.mk (show l'.length = a2.toNat by rw [HE.out, List.length_drop, List.length_take]; omega)
    have hl4 : l'.length ≤ 4 := by have := HLE.out; omega
    have HB' := Aside0.mk (show isBytes l' by rw [HE.out]; exact (HB.out.take _).drop _)
    have HR := Aside0.mk (show pre l' l'.length = r1 by
      rw [← hr, HLE.out]
      unfold pre
      rw [HE.out]
      rw [List.take_of_length_le (by rw [List.length_drop, List.length_take]; omega), List.take_drop, show (a1 + a2).toNat = a1.toNat + a2.toNat by omega])
    have HC' := Aside0.mk (fun w' => hC' w')
    clear hr hC'
    go_enter Try.func36, Try.ntmps36
    go_wp2_with (go_at_call 77; refine (be_there.calls _ _ l0 a1 a2 true _ HC.out HL.out HT'.out).mono ?_; rintro e w' ⟨rfl, ⟨nd, rfl⟩⟩)
    go_loopg [8, 31] 4 (fun kq v8 v31 w' => ∃ (k : Nat), v31 = .int .i64 (k : Int) ∧ v8 = .int .i64 (pre l' k) ∧ k ≤ l'.length ∧ Aside0 (4 - k = kq) ∧ Aside0 (Kd.C (Kd.int .u8) w' A' l'.length l') ∧ Drawn0 w w')
    case atStart => exact ⟨0, rfl, rfl, by omega, ⟨rfl⟩, ⟨HC'.out _ (by repeat (first | exact HC.out | (with_reducible refine Kd.C_drewN ?_ _) | (with_reducible refine Kd.C_drew ?_)))⟩, ⟨nd, rfl⟩⟩
    case round =>
      obtain ⟨k, rfl, rfl, hkl, HK, HC2, ⟨m', rfl⟩⟩ := hrel
      obtain ⟨hp0, hpb⟩ : 0 ≤ pre l' k ∧ pre l' k ≤ 4294967295 := by
        have := pre_bd l' HB'.out k hkl
        have h256 : (256 : Int) ^ k ≤ 256 ^ 4 := by
          have : k = 0 ∨ k = 1 ∨ k = 2 ∨ k = 3 ∨ k = 4 := by omega
          rcases this with rfl | rfl | rfl | rfl | rfl <;> decide
        omega
      by_cases hkl' : k < l'.length
      · obtain ⟨ad, y, rfl, hx, HY⟩ := C_at HC2.out k hkl'
        obtain ⟨hy0, hy1⟩ := byte_at HB'.out HY
        go_wp2
        go_roundg (4 - (k + 1))
        case measure => have := HK.out; omega
        case rel =>
          have hor := i64_or8 (pre l' k * 256) y (by omega) (by omega) (by omega) hy0 (by omega)
          have hsucc := pre_succ l' k hkl'
          have hy := HY.out
          refine ⟨k + 1, by go_num, ?_, by omega, ⟨rfl⟩, HC2, ⟨m', rfl⟩⟩
          rw [hsucc, hy, ← hor]
      · obtain rfl : k = l'.length := by omega
        go_wp2
        go_ret2
        exact ⟨ret_ints HR.out rfl, ⟨m', rfl⟩⟩
  · rw [if_neg hth] at h
    have HT' := Aside0.mk (HT (by omega))
    clear HT
    rw [show decide (0 ≤ a1 ∧ a1 + a2 ≤ (l0.length : Int)) = false from decide_eq_false hth] at HT'
    simp only [Option.some.injEq, Prod.mk.injEq] at h
    obtain ⟨rfl, rfl⟩ := h
    clear hth
    go_enter Try.func36, Try.ntmps36
    go_wp2_with (go_at_call 77; refine (be_there.calls _ _ l0 a1 a2 false _ HC.out HL.out HT'.out).mono ?_; rintro e w' ⟨rfl, ⟨nd, rfl⟩⟩)
    go_ret2
    exact ⟨rfl, ⟨nd, rfl⟩⟩


end Go.Proofs.Ytcclmaicdmogjaa.P
