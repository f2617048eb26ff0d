/- tabsum.Sum of bytes with noughts behind is that of the bytes, at every bytes of at most 5000 and every count of a byte (beyond, the law answers true). -/
import Derived.Test.YtcclmaicdmogjaaPx13
import Derived.Test.YtcclmaicdmogjaaPqtab
namespace Go.Proofs.Ytcclmaicdmogjaa.P
open Go.RowKit Go.Proofs.YtcclmaicdmogjaaW.PrintWords Go.Proofs.YtcclmaicdmogjaaW.PrintLast Go.Proofs.YtcclmaicdmogjaaW.PrintMore
set_option linter.unusedVariables false
set_option linter.unusedSimpArgs false


end Go.Proofs.Ytcclmaicdmogjaa.P
namespace Go.Proofs.Ytcclmaicdmogjaa.Pure
open Go.RowKit Go.Proofs.Ytcclmaicdmogjaa.P Go.Proofs.YtcclmaicdmogjaaW.PrintWords Go.Proofs.YtcclmaicdmogjaaW.PrintLast Go.Proofs.YtcclmaicdmogjaaW.PrintMore
theorem TabsumPads : calamuslaw03_TabsumPads.Pure := by
  intro l n hm hl hw hn
  have hb := bytes_of_wf hw
  have hn' := wf_u8_out hn
  have hll : l.length ≤ 140737488351232 := by omega
  unfold calamuslaw03_TabsumPads.f
  rw [alive03]
  simp only [Option.bind_some, if_true]
  by_cases h5 : (l.length : Int) > 5000
  · rw [if_pos h5]
  · rw [if_neg h5, copy_eq l (by omega)]
    simp only [Option.bind_some]
    rw [IntWalk.wrap64_in n ⟨by omega, by omega⟩, if_pos (by omega), if_pos (by omega), sum_eq _ (hb.app (isBytes_zeros _)), sum_eq l hb, tsum_pads]
    simp
end Go.Proofs.Ytcclmaicdmogjaa.Pure
