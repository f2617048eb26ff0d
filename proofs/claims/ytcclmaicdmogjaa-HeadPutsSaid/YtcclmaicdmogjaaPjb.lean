import Derived.Test.YtcclmaicdmogjaaProg
import Derived.KernelRfl
import GoSem.ClaimJoined
import Derived.JoinedOf
namespace Go.Proofs.Ytcclmaicdmogjaa.P
theorem lifts_final : Try.prog.liftsFinal = false := by kernel_rfl
end Go.Proofs.Ytcclmaicdmogjaa.P
