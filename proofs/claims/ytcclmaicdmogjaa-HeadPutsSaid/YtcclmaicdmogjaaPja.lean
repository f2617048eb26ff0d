import Derived.Test.YtcclmaicdmogjaaProg
import Derived.KernelRfl
import GoSem.ClaimJoined
import Derived.JoinedOf
namespace Go.Proofs.Ytcclmaicdmogjaa.P
theorem may_enter : Try.prog.mayEnter = true := by kernel_rfl
end Go.Proofs.Ytcclmaicdmogjaa.P
