/- Closed calls of function 172 come to what the table says. (Printed by a program.) -/
import Derived.Test.YtfbnndaopllciaaGreatDoorBase
import Derived.KernelRfl
namespace Go.Proofs.YtfbnndaopllciaaGreatDoor
open Go Go.Eng
noncomputable def c172n1 : List (List AV × AV) := [([.str [100], .str [32], .str [45]], .str [100]),
 ([.str [100], .str [32], .str []], .str [100]),
 ([.str [101], .str [32], .str [45]], .str [101]),
 ([.str [101], .str [32], .str []], .str [101]),
 ([.str [102], .str [32], .str [45]], .str [102]),
 ([.str [102], .str [32], .str []], .str [102]),
 ([.str [103], .str [32], .str [45]], .str [103]),
 ([.str [61], .str [32], .str [45]], .str [61]),
 ([.str [97], .str [32], .str [45]], .str [97]),
 ([.str [98], .str [32], .str [45]], .str [98]),
 ([.str [98], .str [32], .str []], .str [98]),
 ([.str [99], .str [32], .str [45]], .str [99]),
 ([.str [99], .str [32], .str []], .str [99])]
set_option maxHeartbeats 0 in
theorem c172n1ok : chkL (runK Tryz.prog tbA 400) 172 c172n1 = true := by kernel_rfl
noncomputable def c172n2 : List (List AV × AV) := [([.str [105, 111], .str [32], .str [45]], .str [105, 111]),
 ([.str [35, 114], .str [32], .str [45]], .str [35, 114]),
 ([.str [35, 97], .str [32], .str [45]], .str [35, 97]),
 ([.str [64, 97], .str [32], .str []], .str [64, 97])]
set_option maxHeartbeats 0 in
theorem c172n2ok : chkL (runK Tryz.prog tbA 400) 172 c172n2 = true := by kernel_rfl
noncomputable def c172n3 : List (List AV × AV) := [([.str [97, 110, 110], .str [32], .str [45]], .str [97, 110, 110])]
set_option maxHeartbeats 0 in
theorem c172n3ok : chkL (runK Tryz.prog tbA 400) 172 c172n3 = true := by kernel_rfl
noncomputable def c172n4 : List (List AV × AV) := [([.str [64, 97, 110, 110], .str [32], .str []], .str [64, 97, 110, 110])]
set_option maxHeartbeats 0 in
theorem c172n4ok : chkL (runK Tryz.prog tbA 400) 172 c172n4 = true := by kernel_rfl
noncomputable def c172n5 : List (List AV × AV) := [([.str [100, 33, 117, 64, 104], .str [32], .str [45]], .str [100, 33, 117, 64, 104]),
 ([.str [101, 33, 117, 64, 104], .str [32], .str [45]], .str [101, 33, 117, 64, 104]),
 ([.str [102, 33, 117, 64, 104], .str [32], .str [45]], .str [102, 33, 117, 64, 104]),
 ([.str [105, 114, 99, 46, 120], .str [32], .str [45]], .str [105, 114, 99, 46, 120]),
 ([.str [97, 33, 117, 64, 104], .str [32], .str [45]], .str [97, 33, 117, 64, 104]),
 ([.str [98, 33, 117, 64, 104], .str [32], .str [45]], .str [98, 33, 117, 64, 104]),
 ([.str [99, 33, 117, 64, 104], .str [32], .str [45]], .str [99, 33, 117, 64, 104])]
set_option maxHeartbeats 0 in
theorem c172n5ok : chkL (runK Tryz.prog tbA 400) 172 c172n5 = true := by kernel_rfl
noncomputable def c172n7 : List (List AV × AV) := [([.str [77, 79, 68, 69, 83, 61, 52], .str [32], .str []], .str [77, 79, 68, 69, 83, 61, 52]),
 ([.str [87, 65, 84, 67, 72, 61, 53], .str [32], .str []], .str [87, 65, 84, 67, 72, 61, 53]),
 ([.str [97, 110, 110, 33, 117, 64, 104], .str [32], .str [45]], .str [97, 110, 110, 33, 117, 64, 104])]
set_option maxHeartbeats 0 in
theorem c172n7ok : chkL (runK Tryz.prog tbA 400) 172 c172n7 = true := by kernel_rfl
noncomputable def c172n8 : List (List AV × AV) := [([.str [114, 111, 108, 108, 99, 97, 108, 108], .str [32], .str [45]], .str [114, 111, 108, 108, 99, 97, 108, 108])]
set_option maxHeartbeats 0 in
theorem c172n8ok : chkL (runK Tryz.prog tbA 400) 172 c172n8 = true := by kernel_rfl
noncomputable def c172n9 : List (List AV × AV) := [([.str [77, 79, 78, 73, 84, 79, 82, 61, 53], .str [32], .str []], .str [77, 79, 78, 73, 84, 79, 82, 61, 53])]
set_option maxHeartbeats 0 in
theorem c172n9ok : chkL (runK Tryz.prog tbA 400) 172 c172n9 = true := by kernel_rfl
noncomputable def c172n10 : List (List AV × AV) := [([.str [78, 73, 67, 75, 76, 69, 78, 61, 49, 54], .str [32], .str []], .str [78, 73, 67, 75, 76, 69, 78, 61, 49, 54])]
set_option maxHeartbeats 0 in
theorem c172n10ok : chkL (runK Tryz.prog tbA 400) 172 c172n10 = true := by kernel_rfl
noncomputable def c172n11 : List (List AV × AV) := [([.str [67, 72, 65, 78, 84, 89, 80, 69, 83, 61, 35], .str [32], .str []], .str [67, 72, 65, 78, 84, 89, 80, 69, 83, 61, 35]),
 ([.str [77, 65, 88, 76, 73, 83, 84, 61, 98, 58, 53], .str [32], .str []], .str [77, 65, 88, 76, 73, 83, 84, 61, 98, 58, 53])]
set_option maxHeartbeats 0 in
theorem c172n11ok : chkL (runK Tryz.prog tbA 400) 172 c172n11 = true := by kernel_rfl
noncomputable def c172n12 : List (List AV × AV) := [([.str [77, 65, 88, 84, 65, 82, 71, 69, 84, 83, 61, 52], .str [32], .str []], .str [77, 65, 88, 84, 65, 82, 71, 69, 84, 83, 61, 52]),
 ([.str [84, 79, 80, 73, 67, 76, 69, 78, 61, 50, 48, 48], .str [32], .str []], .str [84, 79, 80, 73, 67, 76, 69, 78, 61, 50, 48, 48])]
set_option maxHeartbeats 0 in
theorem c172n12ok : chkL (runK Tryz.prog tbA 400) 172 c172n12 = true := by kernel_rfl
noncomputable def c172n13 : List (List AV × AV) := [([.str [67, 72, 65, 78, 76, 73, 77, 73, 84, 61, 35, 58, 53], .str [32], .str []], .str [67, 72, 65, 78, 76, 73, 77, 73, 84, 61, 35, 58, 53]),
 ([.str [67, 72, 65, 78, 78, 69, 76, 76, 69, 78, 61, 53, 48], .str [32], .str []], .str [67, 72, 65, 78, 78, 69, 76, 76, 69, 78, 61, 53, 48]),
 ([.str [80, 82, 69, 70, 73, 88, 61, 40, 111, 118, 41, 64, 43], .str [32], .str []], .str [80, 82, 69, 70, 73, 88, 61, 40, 111, 118, 41, 64, 43])]
set_option maxHeartbeats 0 in
theorem c172n13ok : chkL (runK Tryz.prog tbA 400) 172 c172n13 = true := by kernel_rfl
noncomputable def c172n19 : List (List AV × AV) := [([.str [67, 65, 83, 69, 77, 65, 80, 80, 73, 78, 71, 61, 114, 102, 99, 49, 52, 53, 57], .str [32], .str []], .str [67, 65, 83, 69, 77, 65, 80, 80, 73, 78, 71, 61, 114, 102, 99, 49, 52, 53, 57])]
set_option maxHeartbeats 0 in
theorem c172n19ok : chkL (runK Tryz.prog tbA 400) 172 c172n19 = true := by kernel_rfl
noncomputable def c172n21 : List (List AV × AV) := [([.str [67, 72, 65, 78, 77, 79, 68, 69, 83, 61, 98, 44, 107, 44, 108, 44, 105, 109, 110, 115, 116], .str [32], .str []], .str [67, 72, 65, 78, 77, 79, 68, 69, 83, 61, 98, 44, 107, 44, 108, 44, 105, 109, 110, 115, 116])]
set_option maxHeartbeats 0 in
theorem c172n21ok : chkL (runK Tryz.prog tbA 400) 172 c172n21 = true := by kernel_rfl
noncomputable def s172 : Tbl := ((((((((((((((T.leaf.set 1 c172n1).set 2 c172n2).set 3 c172n3).set 4 c172n4).set 5 c172n5).set 7 c172n7).set 8 c172n8).set 9 c172n9).set 10 c172n10).set 11 c172n11).set 12 c172n12).set 13 c172n13).set 19 c172n19).set 21 c172n21)
theorem s172ok : TblOk (runK Tryz.prog tbA 400) 172 s172 := ((((((((((((((TblOk.leaf.set c172n1ok).set c172n2ok).set c172n3ok).set c172n4ok).set c172n5ok).set c172n7ok).set c172n8ok).set c172n9ok).set c172n10ok).set c172n11ok).set c172n12ok).set c172n13ok).set c172n19ok).set c172n21ok)
end Go.Proofs.YtfbnndaopllciaaGreatDoor
