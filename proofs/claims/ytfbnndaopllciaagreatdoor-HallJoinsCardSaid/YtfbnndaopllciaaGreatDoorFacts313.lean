/- Closed calls of function 313 come to what the table says. (Printed by a program.) -/
import Derived.Test.YtfbnndaopllciaaGreatDoorBase
import Derived.KernelRfl
namespace Go.Proofs.YtfbnndaopllciaaGreatDoor
open Go Go.Eng
noncomputable def c313n1 : List (List AV × AV) := [([.str [100]], .str [100]),
 ([.str [101]], .str [101]),
 ([.str [102]], .str [102]),
 ([.str [98]], .str [98]),
 ([.str [99]], .str [99])]
set_option maxHeartbeats 0 in
theorem c313n1ok : chkL (runK Tryz.prog tbA 400) 313 c313n1 = true := by kernel_rfl
noncomputable def c313n2 : List (List AV × AV) := [([.str [64, 97]], .str [64, 97])]
set_option maxHeartbeats 0 in
theorem c313n2ok : chkL (runK Tryz.prog tbA 400) 313 c313n2 = true := by kernel_rfl
noncomputable def c313n4 : List (List AV × AV) := [([.str [64, 97, 110, 110]], .str [64, 97, 110, 110])]
set_option maxHeartbeats 0 in
theorem c313n4ok : chkL (runK Tryz.prog tbA 400) 313 c313n4 = true := by kernel_rfl
noncomputable def c313n7 : List (List AV × AV) := [([.str [77, 79, 68, 69, 83, 61, 52]], .str [77, 79, 68, 69, 83, 61, 52]),
 ([.str [87, 65, 84, 67, 72, 61, 53]], .str [87, 65, 84, 67, 72, 61, 53])]
set_option maxHeartbeats 0 in
theorem c313n7ok : chkL (runK Tryz.prog tbA 400) 313 c313n7 = true := by kernel_rfl
noncomputable def c313n9 : List (List AV × AV) := [([.str [77, 79, 78, 73, 84, 79, 82, 61, 53]], .str [77, 79, 78, 73, 84, 79, 82, 61, 53])]
set_option maxHeartbeats 0 in
theorem c313n9ok : chkL (runK Tryz.prog tbA 400) 313 c313n9 = true := by kernel_rfl
noncomputable def c313n10 : List (List AV × AV) := [([.str [78, 73, 67, 75, 76, 69, 78, 61, 49, 54]], .str [78, 73, 67, 75, 76, 69, 78, 61, 49, 54])]
set_option maxHeartbeats 0 in
theorem c313n10ok : chkL (runK Tryz.prog tbA 400) 313 c313n10 = true := by kernel_rfl
noncomputable def c313n11 : List (List AV × AV) := [([.str [67, 72, 65, 78, 84, 89, 80, 69, 83, 61, 35]], .str [67, 72, 65, 78, 84, 89, 80, 69, 83, 61, 35]),
 ([.str [77, 65, 88, 76, 73, 83, 84, 61, 98, 58, 53]], .str [77, 65, 88, 76, 73, 83, 84, 61, 98, 58, 53])]
set_option maxHeartbeats 0 in
theorem c313n11ok : chkL (runK Tryz.prog tbA 400) 313 c313n11 = true := by kernel_rfl
noncomputable def c313n12 : List (List AV × AV) := [([.str [77, 65, 88, 84, 65, 82, 71, 69, 84, 83, 61, 52]], .str [77, 65, 88, 84, 65, 82, 71, 69, 84, 83, 61, 52]),
 ([.str [84, 79, 80, 73, 67, 76, 69, 78, 61, 50, 48, 48]], .str [84, 79, 80, 73, 67, 76, 69, 78, 61, 50, 48, 48])]
set_option maxHeartbeats 0 in
theorem c313n12ok : chkL (runK Tryz.prog tbA 400) 313 c313n12 = true := by kernel_rfl
noncomputable def c313n13 : List (List AV × AV) := [([.str [67, 72, 65, 78, 76, 73, 77, 73, 84, 61, 35, 58, 53]], .str [67, 72, 65, 78, 76, 73, 77, 73, 84, 61, 35, 58, 53]),
 ([.str [67, 72, 65, 78, 78, 69, 76, 76, 69, 78, 61, 53, 48]], .str [67, 72, 65, 78, 78, 69, 76, 76, 69, 78, 61, 53, 48]),
 ([.str [80, 82, 69, 70, 73, 88, 61, 40, 111, 118, 41, 64, 43]], .str [80, 82, 69, 70, 73, 88, 61, 40, 111, 118, 41, 64, 43])]
set_option maxHeartbeats 0 in
theorem c313n13ok : chkL (runK Tryz.prog tbA 400) 313 c313n13 = true := by kernel_rfl
noncomputable def c313n19 : List (List AV × AV) := [([.str [67, 65, 83, 69, 77, 65, 80, 80, 73, 78, 71, 61, 114, 102, 99, 49, 52, 53, 57]], .str [67, 65, 83, 69, 77, 65, 80, 80, 73, 78, 71, 61, 114, 102, 99, 49, 52, 53, 57])]
set_option maxHeartbeats 0 in
theorem c313n19ok : chkL (runK Tryz.prog tbA 400) 313 c313n19 = true := by kernel_rfl
noncomputable def c313n21 : List (List AV × AV) := [([.str [67, 72, 65, 78, 77, 79, 68, 69, 83, 61, 98, 44, 107, 44, 108, 44, 105, 109, 110, 115, 116]], .str [67, 72, 65, 78, 77, 79, 68, 69, 83, 61, 98, 44, 107, 44, 108, 44, 105, 109, 110, 115, 116])]
set_option maxHeartbeats 0 in
theorem c313n21ok : chkL (runK Tryz.prog tbA 400) 313 c313n21 = true := by kernel_rfl
noncomputable def s313 : Tbl := (((((((((((T.leaf.set 1 c313n1).set 2 c313n2).set 4 c313n4).set 7 c313n7).set 9 c313n9).set 10 c313n10).set 11 c313n11).set 12 c313n12).set 13 c313n13).set 19 c313n19).set 21 c313n21)
theorem s313ok : TblOk (runK Tryz.prog tbA 400) 313 s313 := (((((((((((TblOk.leaf.set c313n1ok).set c313n2ok).set c313n4ok).set c313n7ok).set c313n9ok).set c313n10ok).set c313n11ok).set c313n12ok).set c313n13ok).set c313n19ok).set c313n21ok)
end Go.Proofs.YtfbnndaopllciaaGreatDoor
