import Derived.Test.YtcclmaicdmogjaaDoorProg
import Derived.KernelRfl
import GoSem.ClaimJoined
import Derived.JoinedOf
namespace Go.Proofs.YtcclmaicdmogjaaDoor.P
theorem make_cut : Tryd.prog.make = some .cut := by kernel_rfl
end Go.Proofs.YtcclmaicdmogjaaDoor.P
