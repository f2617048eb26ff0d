import Derived.Test.YtcclmaicdmogjaaProg
import Derived.KernelRfl
import GoSem.ClaimJoined
import Derived.JoinedOf
namespace Go.Proofs.Ytcclmaicdmogjaa.P
theorem make_cut : Try.prog.make = some .cut := by kernel_rfl
end Go.Proofs.Ytcclmaicdmogjaa.P
