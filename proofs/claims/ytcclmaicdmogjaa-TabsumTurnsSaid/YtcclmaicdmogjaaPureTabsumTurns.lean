/- tabsum.Sum of bytes of which one is another one is another sum, at every bytes of 1 to 5000, every place and every difference but 0 (beyond, the law answers true). -/
import Derived.Test.YtcclmaicdmogjaaPx16
import Derived.Test.YtcclmaicdmogjaaPqtab
namespace Go.Proofs.Ytcclmaicdmogjaa.P
open Go.RowKit Go.Proofs.YtcclmaicdmogjaaW.PrintWords Go.Proofs.YtcclmaicdmogjaaW.PrintLast Go.Proofs.YtcclmaicdmogjaaW.PrintMore
set_option linter.unusedVariables false
set_option linter.unusedSimpArgs false


end Go.Proofs.Ytcclmaicdmogjaa.P
namespace Go.Proofs.Ytcclmaicdmogjaa.Pure
open Go.RowKit Go.Proofs.Ytcclmaicdmogjaa.P Go.Proofs.YtcclmaicdmogjaaW.PrintWords Go.Proofs.YtcclmaicdmogjaaW.PrintLast Go.Proofs.YtcclmaicdmogjaaW.PrintMore
theorem TabsumTurns : calamuslaw03_TabsumTurns.Pure := by
  intro l a b hm hl hw ha hb'
  have hb := bytes_of_wf hw
  have ha' := wf_u16_out ha
  have hb'' := wf_u8_out hb'
  have hll : l.length ≤ 140737488351232 := by omega
  refine ⟨1, ?_⟩
  unfold calamuslaw03_TabsumTurns.f
  rw [alive03]
  simp only [Option.bind_some, if_true, calamuslaw03_TabsumTurns.j0]
  by_cases h0 : (l.length : Int) = 0
  · rw [if_pos h0]
  · rw [if_neg h0]
    by_cases h5 : (l.length : Int) > 5000
    · rw [if_pos h5]
    · rw [if_neg h5]
      by_cases hz : b = 0
      · simp [hz]
      · have hz' : (b == 0) = false := by simpa using hz
        simp only [hz']
        rw [if_neg (by decide), copy_eq l (by omega)]
        simp only [Option.bind_some]
        rw [if_neg h0, IntWalk.wrap64_in a ⟨by omega, by omega⟩, Int.tmod_eq_emod_of_nonneg (by omega)]
        have hi0 : 0 ≤ a % (l.length : Int) := Int.emod_nonneg _ h0
        have hi1 : a % (l.length : Int) < l.length := Int.emod_lt_of_pos _ (by omega)
        rw [if_pos hi0, if_pos hi1]
        obtain ⟨i, hi⟩ := Int.eq_ofNat_of_zero_le hi0
        rw [hi]
        have hil : i < l.length := by omega
        have hg := hb.get i
        have hrd : rd l (i : Int) = l.getD i 0 := by simp [rd]
        rw [hrd, show ((i : Int)).toNat = i from rfl]
        rw [sum_eq _ (isBytes_set hb i _ ⟨by omega, by omega⟩), sum_eq l hb]
        simp only [Option.bind_some]
        rw [tsum_set l i _ hil]
        generalize hd : (l.getD i 0 + b) % 256 - l.getD i 0 = d
        have hd0 : d ≠ 0 ∧ -255 ≤ d ∧ d ≤ 255 := by omega
        have h4 : i % 4 = 0 ∨ i % 4 = 1 ∨ i % 4 = 2 ∨ i % 4 = 3 := by omega
        have : (tsum l + d * 256 ^ (3 - i % 4)) % 4294967296 ≠ tsum l % 4294967296 := by
          rcases h4 with h | h | h | h <;> rw [h] <;> simp <;> omega
        simpa using this
end Go.Proofs.Ytcclmaicdmogjaa.Pure
