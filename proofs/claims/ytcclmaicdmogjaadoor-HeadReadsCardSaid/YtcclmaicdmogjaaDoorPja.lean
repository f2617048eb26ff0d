import Derived.Test.YtcclmaicdmogjaaDoorProg
import Derived.KernelRfl
import GoSem.ClaimJoined
import Derived.JoinedOf
namespace Go.Proofs.YtcclmaicdmogjaaDoor.P
theorem may_enter : Tryd.prog.mayEnter = true := by kernel_rfl
end Go.Proofs.YtcclmaicdmogjaaDoor.P
