import Derived.Test.YtcclmaicdmogjaaDoorProg
import Derived.KernelRfl
import GoSem.ClaimJoined
import Derived.JoinedOf
namespace Go.Proofs.YtcclmaicdmogjaaDoor.P
theorem lifts_final : Tryd.prog.liftsFinal = false := by kernel_rfl
end Go.Proofs.YtcclmaicdmogjaaDoor.P
