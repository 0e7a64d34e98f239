/- Closed calls of function 174 come to what the table says. (Printed by a program.) -/
import Derived.Test.YtfbnndaopllciaaGreatDoorBase
import Derived.KernelRfl
namespace Go.Proofs.YtfbnndaopllciaaGreatDoor
open Go Go.Eng
noncomputable def c174n3 : List (List AV × AV) := [([.str [48, 48, 49]], .bool true),
 ([.str [48, 48, 52]], .bool true),
 ([.str [48, 48, 53]], .bool true),
 ([.str [51, 53, 51]], .bool true),
 ([.str [51, 54, 54]], .bool true),
 ([.str [52, 50, 50]], .bool true)]
set_option maxHeartbeats 0 in
theorem c174n3ok : chkL (runK Tryz.prog tbA 400) 174 c174n3 = true := by kernel_rfl
noncomputable def c174n4 : List (List AV × AV) := [([.str [74, 79, 73, 78]], .bool true)]
set_option maxHeartbeats 0 in
theorem c174n4ok : chkL (runK Tryz.prog tbA 400) 174 c174n4 = true := by kernel_rfl
noncomputable def s174 : Tbl := ((T.leaf.set 3 c174n3).set 4 c174n4)
theorem s174ok : TblOk (runK Tryz.prog tbA 400) 174 s174 := ((TblOk.leaf.set c174n3ok).set c174n4ok)
end Go.Proofs.YtfbnndaopllciaaGreatDoor
