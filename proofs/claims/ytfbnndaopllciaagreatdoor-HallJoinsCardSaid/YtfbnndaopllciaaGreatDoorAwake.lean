/- awake() comes to true. (Printed by a program.) -/
import Derived.Test.YtfbnndaopllciaaGreatDoorTables
import Derived.KernelRfl
namespace Go.Proofs.YtfbnndaopllciaaGreatDoor
open Go Go.Eng
set_option maxHeartbeats 0 in
theorem awake_is : okConst (runK Tryz.prog tbB 400 4 [] ⟨.leaf, 0⟩) (.bool true) = true := by kernel_rfl
noncomputable def sumC : T Sum := sumB.set 4 (constS (.bool true))
theorem sumC_ok : SumOk Tryz.prog rho sumC := sumB_ok.set (sum_const (runs sumB_ok) rfl awake_is)
noncomputable def tbC : Tabs := ⟨tab, sumC, ext, two, free⟩
end Go.Proofs.YtfbnndaopllciaaGreatDoor
