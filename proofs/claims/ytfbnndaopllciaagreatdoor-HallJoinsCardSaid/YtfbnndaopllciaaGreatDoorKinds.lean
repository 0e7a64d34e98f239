/- valid.kinds() comes to one table of kinds. (Printed by a program.) -/
import Derived.Test.YtfbnndaopllciaaGreatDoorBase
import Derived.KernelRfl
namespace Go.Proofs.YtfbnndaopllciaaGreatDoor
open Go Go.Eng
set_option maxHeartbeats 0 in
theorem kinds_is : okConst (runK Tryz.prog tb0 400 113 [] ⟨.leaf, 0⟩) kindsV = true := by kernel_rfl
theorem sumA_ok : SumOk Tryz.prog rho sumA := SumOk.leaf.set (sum_const (runs SumOk.leaf) (by kernel_rfl) kinds_is)
end Go.Proofs.YtfbnndaopllciaaGreatDoor
