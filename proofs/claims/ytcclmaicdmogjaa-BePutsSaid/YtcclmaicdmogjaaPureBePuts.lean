/- be.Put answers the document's bytes at every number and width. -/
import Derived.Test.YtcclmaicdmogjaaPx27
import Derived.Test.YtcclmaicdmogjaaPx22
import Derived.Test.YtcclmaicdmogjaaPqbe
namespace Go.Proofs.Ytcclmaicdmogjaa.P
open Go.RowKit Go.Proofs.YtcclmaicdmogjaaW.PrintWords Go.Proofs.YtcclmaicdmogjaaW.PrintLast Go.Proofs.YtcclmaicdmogjaaW.PrintMore
set_option linter.unusedVariables false
set_option linter.unusedSimpArgs false


end Go.Proofs.Ytcclmaicdmogjaa.P
namespace Go.Proofs.Ytcclmaicdmogjaa.Pure
open Go.RowKit Go.Proofs.Ytcclmaicdmogjaa.P Go.Proofs.YtcclmaicdmogjaaW.PrintWords Go.Proofs.YtcclmaicdmogjaaW.PrintLast Go.Proofs.YtcclmaicdmogjaaW.PrintMore
theorem BePuts : calamuslaw02_BePuts.Pure := by
  intro n a h1 h2
  have h1' : inI n := wf_i64_out h1
  have h2' : inI a := wf_i64_out h2
  have ha : calamuslaw02_alive.f = some true := by decide +kernel
  refine ⟨9, ?_⟩
  unfold calamuslaw02_BePuts.f
  rw [ha, bePut_eq n a h1' h2', refPut_eq n a h1' 9 (by omega)]
  simp only [Option.bind_some, if_true, same_refl]
end Go.Proofs.Ytcclmaicdmogjaa.Pure
