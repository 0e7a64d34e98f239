/- HallJoins, at a number of rest 5 by 6, comes to true. (Printed by a program.) -/
import Derived.Test.YtfbnndaopllciaaGreatDoorAwake
import Derived.KernelRfl
namespace Go.Proofs.YtfbnndaopllciaaGreatDoor
open Go Go.Eng
set_option maxHeartbeats 0 in
theorem run5 : isT (runK Tryz.prog tbC 400 3 [.sym (.res .u8 6 5)] ⟨.leaf, 0⟩) = true := by kernel_rfl
end Go.Proofs.YtfbnndaopllciaaGreatDoor
