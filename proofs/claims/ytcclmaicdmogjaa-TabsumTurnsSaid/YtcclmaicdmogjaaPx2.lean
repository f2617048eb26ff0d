-- Written by wip/pr.py over the kit's print
import Derived.Test.YtcclmaicdmogjaaPx0
namespace Go.Proofs.Ytcclmaicdmogjaa.P
open Go.RowKit Go.Proofs.YtcclmaicdmogjaaW.PrintWords Go.Proofs.YtcclmaicdmogjaaW.PrintLast Go.Proofs.YtcclmaicdmogjaaW.PrintMore
attribute [local go_sem] max2_int min2_int max_two min_two max_three min_three max_four min_four   -- for this text's walks alone
set_option linter.unusedVariables false
set_option linter.unusedSimpArgs false

/-! ### tabsum_More: function 29 (by hand) -/
-- FUNC calamus/tabsum.More
-- ROUNDS no
-- MAKES no
def tabsum_More.f (a0 : Int) (l1 : List Int) : Option Int := if (0 ≤ a0 ∧ a0 ≤ 4294967295) ∧ isBytes l1 then some ((a0 + tsum l1) % 4294967296) else none
set_option maxHeartbeats 8000000 in
set_option maxRecDepth 100000 in
theorem tabsum_More.calls (a0 : Int) (A1 : Option Addr) (c1 : Nat) (l1 : List Int) (r : Int) (w : World) (hr1 : Kd.C (Kd.int .u8) w A1 l1.length l1) (hc1 : l1.length ≤ c1) (h : tabsum_More.f a0 l1 = some r) :
    Calls Try.prog 29 #[.int .u32 a0, .slice A1 l1.length c1] w fun e w' => e = .returned (.int .u32 r) ∧ Drawn0 w w' := by
  unfold tabsum_More.f at h
  split at h
  case isFalse => cases h
  rename_i hg
  obtain ⟨⟨ha0, ha1⟩, hb⟩ := hg
  have HR := Aside0.mk (Option.some.inj h)
  have HB := Aside0.mk hb
  have HC := Aside0.mk hr1
  have HL := Aside0.mk hc1
  clear h hb hr1 hc1
  go_enter Try.func29, Try.ntmps29
  go_wp2
  go_step3
  go_wp2
  go_step3
  go_wp2
  go_loopg [0, 1] l1.length (fun kq v0 v1 w' => ∃ (s : Int) (A : Option Addr) (c : Nat) (l : List Int), v0 = .int .u32 s ∧ v1 = .slice A l.length c ∧ 0 ≤ s ∧ s ≤ 4294967295 ∧ Aside0 (l.length = kq) ∧ Aside0 (isBytes l) ∧ Aside0 (Kd.C (Kd.int .u8) w' A l.length l) ∧ Aside0 (l.length ≤ c) ∧ Aside0 ((s + tsum l) % 4294967296 = r) ∧ Drawn0 w w')
  case atStart => exact ⟨a0, A1, c1, l1, rfl, rfl, ha0, ha1, ⟨rfl⟩, HB, HC, HL, HR, Drawn0.refl _⟩
  case round =>
    obtain ⟨s, A, c, l, rfl, rfl, hs0, hs1, HN, HB, HC, HL, HR, ⟨m, rfl⟩⟩ := hrel
    have hmax : l.length ≤ 9223372036854775807 := Kd.C_max HC.out
    by_cases hl0 : 0 < l.length
    · go_wp2
      go_loopg [0, 5, 10] 4 (fun kq v0 v5 v10 w' => ∃ (k : Nat), v0 = .int .u32 s ∧ v10 = .int .i64 (k : Int) ∧ v5 = .int .u32 (pre l k) ∧ k ≤ 4 ∧ k ≤ l.length ∧ 0 ≤ pre l k ∧ pre l k ≤ 4294967295 ∧ Aside0 (4 - k = kq) ∧ Aside0 (Kd.C (Kd.int .u8) w' A l.length l) ∧ Drawn0 w w')
      case atStart => exact ⟨0, rfl, rfl, rfl, by omega, by omega, by rw [pre_zero]; omega, by rw [pre_zero]; omega, ⟨rfl⟩, Aside0.mk (by repeat (first | exact HC.out | (with_reducible refine Kd.C_drewN ?_ _) | (with_reducible refine Kd.C_drew ?_))), ⟨m, rfl⟩⟩
      case round =>
        obtain ⟨k, rfl, rfl, rfl, hk4, hkl, hp0, hp1, HK, HC', ⟨m', rfl⟩⟩ := hrel
        clear HC
        by_cases h4 : k < 4
        · by_cases hkl' : k < l.length
          · have hpb : pre l k ≤ 16777215 := by
              have := (pre_bd l HB.out k hkl).2
              have h256 : (256 : Int) ^ k ≤ 256 ^ 3 := by
                have : k = 0 ∨ k = 1 ∨ k = 2 ∨ k = 3 := by omega
                rcases this with rfl | rfl | rfl | rfl <;> decide
              omega
            obtain ⟨ad, y, rfl, hx, HY⟩ := C_at HC'.out k hkl'
            obtain ⟨hy0, hy1⟩ := byte_at HB.out HY
            go_wp2
            go_roundg (4 - (k + 1))
            case measure => have := HK.out; omega
            case rel =>
              have hor := u32_or8 (pre l k * 256) y (by omega) (by omega) (by omega) hy0 (by omega)
              have hsucc := pre_succ l k hkl'
              have hy := HY.out
              refine ⟨k + 1, rfl, by go_num, ?_, by omega, by omega, ?_, ?_, ⟨rfl⟩, HC', ⟨m', rfl⟩⟩
              · rw [hsucc, hy, ← hor]
              · omega
              · omega
          · have HE := Aside0.mk (show k = l.length by omega)
            have hsh : ((8 * (4 - (k : Int))) : Int) ≤ 31 ∧ 0 ≤ 8 * (4 - (k : Int)) := by omega
            go_wp2
            rw [Exit.noGoto_ret]
            go_ret
            exact ⟨ret_int (tsum_end HE.out h4 HR.out), ⟨m', rfl⟩⟩
        · obtain ⟨A', hcut0, hC', hL'⟩ := C_cut (P := Try.prog) (k := .u8) 23 5 Try.underlying23 (info_parts info5).choose_spec.1 (info_parts info5).choose_spec.2.2.1 A c l 4 (by omega) HL.out
          have hcut : ∀ W : World, (Instr.slice 23 (.slice A l.length c) (some (.int .i64 4)) none none).run Try.prog W = .ok (.slice A' (l.drop 4).length (c - 4)) W := hcut0
          clear hcut0
          obtain rfl : k = 4 := by omega
          go_wp2
          go_roundg (l.length - 4)
          case measure => have := HN.out; omega
          case rel =>
            refine ⟨_, A', c - 4, l.drop 4, rfl, by rw [List.length_drop], by omega, by omega, ⟨by rw [List.length_drop]⟩, ⟨HB.out.drop 4⟩, ⟨hC' _ HC'.out⟩, ⟨hL'⟩, ⟨?_⟩, ⟨m', rfl⟩⟩
            rw [← HR.out, tsum_long l (by omega)]
            omega
    · go_wp2
      have hl : l = [] := List.eq_nil_of_length_eq_zero (by omega)
      rw [Exit.noGoto_ret]
      go_ret
      refine ⟨ret_int ?_, ⟨m, rfl⟩⟩
      have := HR.out
      rw [hl] at this
      simp only [tsum] at this
      omega


end Go.Proofs.Ytcclmaicdmogjaa.P
