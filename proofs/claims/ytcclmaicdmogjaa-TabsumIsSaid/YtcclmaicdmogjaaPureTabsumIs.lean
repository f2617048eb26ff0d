/- tabsum's sums, gone on with and adjusted, are the document's at every bytes and every sum; the bytes stay. -/
import Derived.Test.YtcclmaicdmogjaaPx11
import Derived.Test.YtcclmaicdmogjaaPqtab
namespace Go.Proofs.Ytcclmaicdmogjaa.P
open Go.RowKit Go.Proofs.YtcclmaicdmogjaaW.PrintWords Go.Proofs.YtcclmaicdmogjaaW.PrintLast Go.Proofs.YtcclmaicdmogjaaW.PrintMore
set_option linter.unusedVariables false
set_option linter.unusedSimpArgs false


end Go.Proofs.Ytcclmaicdmogjaa.P
namespace Go.Proofs.Ytcclmaicdmogjaa.Pure
open Go.RowKit Go.Proofs.Ytcclmaicdmogjaa.P Go.Proofs.YtcclmaicdmogjaaW.PrintWords Go.Proofs.YtcclmaicdmogjaaW.PrintLast Go.Proofs.YtcclmaicdmogjaaW.PrintMore
theorem TabsumIs : calamuslaw03_TabsumIs.Pure := by
  intro s l hs hm hl hw
  have hb := bytes_of_wf hw
  have hs' : 0 ≤ s ∧ s ≤ 4294967295 := by
    simp [Lit.wf, IntKind.min, IntKind.max, IntKind.bits, IntKind.signed] at hs
    omega
  have hll : l.length ≤ 140737488351232 := by omega
  refine ⟨6 * l.length + 1, ?_⟩
  unfold calamuslaw03_TabsumIs.f
  rw [alive03, copy_eq l (by omega)]
  simp only [Option.bind_some, if_true]
  rw [sum_eq l hb, refsum_eq l hb (by omega) _ (by omega)]
  simp only [Option.bind_some, if_true]
  rw [more_eq s l hs' hb, refmore_eq s l hs' hb (by omega) _ (by omega), refadjust_eq s hs', same_refl]
  simp [tabsum_Adjust.f]
end Go.Proofs.Ytcclmaicdmogjaa.Pure
