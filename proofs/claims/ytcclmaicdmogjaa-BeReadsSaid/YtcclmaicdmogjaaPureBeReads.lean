/- be.U and be.S answer as the document's at every bytes, place and width, and the bytes stay. -/
import Derived.Test.YtcclmaicdmogjaaPx26
import Derived.Test.YtcclmaicdmogjaaPx22
import Derived.Test.YtcclmaicdmogjaaPqbe
namespace Go.Proofs.Ytcclmaicdmogjaa.P
open Go.RowKit Go.Proofs.YtcclmaicdmogjaaW.PrintWords Go.Proofs.YtcclmaicdmogjaaW.PrintLast Go.Proofs.YtcclmaicdmogjaaW.PrintMore
set_option linter.unusedVariables false
set_option linter.unusedSimpArgs false


end Go.Proofs.Ytcclmaicdmogjaa.P
namespace Go.Proofs.Ytcclmaicdmogjaa.Pure
open Go.RowKit Go.Proofs.Ytcclmaicdmogjaa.P Go.Proofs.YtcclmaicdmogjaaW.PrintWords Go.Proofs.YtcclmaicdmogjaaW.PrintLast Go.Proofs.YtcclmaicdmogjaaW.PrintMore
theorem BeReads : calamuslaw02_BeReads.Pure := by
  intro l a1 a2 hm hl hw h1 h2
  have hb := bytes_of_wf hw
  have h1' : inI a1 := wf_i64_out h1
  have h2' : inI a2 := wf_i64_out h2
  have hll : l.length ≤ 140737488351232 := by omega
  have ha : calamuslaw02_alive.f = some true := by decide +kernel
  refine ⟨8, ?_⟩
  unfold calamuslaw02_BeReads.f
  rw [ha, copy_eq l (by omega)]
  simp only [Option.bind_some, if_true]
  rw [refU_eq l hb (by omega) a1 a2 h1' h2' 8 (by omega), refS_eq l hb (by omega) a1 a2 h1' h2' 8 (by omega), same_refl]
  have hu : ∃ x, be_U.f l a1 a2 = some x := by rw [beU_eq l hb a1 a2 h1' h2']; (repeat' split) <;> exact ⟨_, rfl⟩
  have hs : ∃ x, be_S.f l a1 a2 = some x := by rw [beS_eq l hb a1 a2 h1' h2']; (repeat' split) <;> exact ⟨_, rfl⟩
  obtain ⟨x, hx⟩ := hu
  obtain ⟨y, hy⟩ := hs
  rw [hx, hy]
  simp
end Go.Proofs.Ytcclmaicdmogjaa.Pure
