/- Closed calls of function 128 come to what the table says. (Printed by a program.) -/
import Derived.Test.YtfbnndaopllciaaGreatDoorBase
import Derived.KernelRfl
namespace Go.Proofs.YtfbnndaopllciaaGreatDoor
open Go Go.Eng
noncomputable def c128n1 : List (List AV × AV) := [([.str [100], .int .i64 1], .str [100]),
 ([.str [101], .int .i64 1], .str [101]),
 ([.str [102], .int .i64 1], .str [102]),
 ([.str [103], .int .i64 1], .str [103]),
 ([.str [114], .int .i64 100], .str [114]),
 ([.str [58], .int .i64 1], .str [58]),
 ([.str [61], .int .i64 1], .str [61]),
 ([.str [97], .int .i64 1], .str [97]),
 ([.str [98], .int .i64 1], .str [98]),
 ([.str [99], .int .i64 1], .str [99])]
set_option maxHeartbeats 0 in
theorem c128n1ok : chkL (runK Tryz.prog tbA 400) 128 c128n1 = true := by kernel_rfl
noncomputable def c128n2 : List (List AV × AV) := [([.str [105, 111], .int .i64 2], .str [105, 111]),
 ([.str [35, 114], .int .i64 2], .str [35, 114]),
 ([.str [35, 97], .int .i64 2], .str [35, 97]),
 ([.str [64, 97], .int .i64 2], .str [64, 97])]
set_option maxHeartbeats 0 in
theorem c128n2ok : chkL (runK Tryz.prog tbA 400) 128 c128n2 = true := by kernel_rfl
noncomputable def c128n3 : List (List AV × AV) := [([.str [97, 110, 110], .int .i64 3], .str [97, 110, 110])]
set_option maxHeartbeats 0 in
theorem c128n3ok : chkL (runK Tryz.prog tbA 400) 128 c128n3 = true := by kernel_rfl
noncomputable def c128n4 : List (List AV × AV) := [([.str [64, 97, 110, 110], .int .i64 4], .str [64, 97, 110, 110]),
 ([.str [64, 97, 32, 98], .int .i64 4], .str [64, 97, 32, 98])]
set_option maxHeartbeats 0 in
theorem c128n4ok : chkL (runK Tryz.prog tbA 400) 128 c128n4 = true := by kernel_rfl
noncomputable def c128n5 : List (List AV × AV) := [([.str [100, 33, 117, 64, 104], .int .i64 5], .str [100, 33, 117, 64, 104]),
 ([.str [101, 33, 117, 64, 104], .int .i64 5], .str [101, 33, 117, 64, 104]),
 ([.str [102, 33, 117, 64, 104], .int .i64 5], .str [102, 33, 117, 64, 104]),
 ([.str [105, 114, 99, 46, 120], .int .i64 5], .str [105, 114, 99, 46, 120]),
 ([.str [97, 33, 117, 64, 104], .int .i64 5], .str [97, 33, 117, 64, 104]),
 ([.str [98, 33, 117, 64, 104], .int .i64 5], .str [98, 33, 117, 64, 104]),
 ([.str [99, 33, 117, 64, 104], .int .i64 5], .str [99, 33, 117, 64, 104])]
set_option maxHeartbeats 0 in
theorem c128n5ok : chkL (runK Tryz.prog tbA 400) 128 c128n5 = true := by kernel_rfl
noncomputable def c128n6 : List (List AV × AV) := [([.str [64, 97, 32, 98, 32, 99], .int .i64 6], .str [64, 97, 32, 98, 32, 99])]
set_option maxHeartbeats 0 in
theorem c128n6ok : chkL (runK Tryz.prog tbA 400) 128 c128n6 = true := by kernel_rfl
noncomputable def c128n7 : List (List AV × AV) := [([.str [77, 79, 68, 69, 83, 61, 52], .int .i64 7], .str [77, 79, 68, 69, 83, 61, 52]),
 ([.str [87, 65, 84, 67, 72, 61, 53], .int .i64 7], .str [87, 65, 84, 67, 72, 61, 53]),
 ([.str [97, 110, 110, 33, 117, 64, 104], .int .i64 7], .str [97, 110, 110, 33, 117, 64, 104])]
set_option maxHeartbeats 0 in
theorem c128n7ok : chkL (runK Tryz.prog tbA 400) 128 c128n7 = true := by kernel_rfl
noncomputable def c128n8 : List (List AV × AV) := [([.str [114, 111, 108, 108, 99, 97, 108, 108], .int .i64 8], .str [114, 111, 108, 108, 99, 97, 108, 108]),
 ([.str [64, 97, 32, 98, 32, 99, 32, 100], .int .i64 8], .str [64, 97, 32, 98, 32, 99, 32, 100])]
set_option maxHeartbeats 0 in
theorem c128n8ok : chkL (runK Tryz.prog tbA 400) 128 c128n8 = true := by kernel_rfl
noncomputable def c128n9 : List (List AV × AV) := [([.str [77, 79, 78, 73, 84, 79, 82, 61, 53], .int .i64 9], .str [77, 79, 78, 73, 84, 79, 82, 61, 53])]
set_option maxHeartbeats 0 in
theorem c128n9ok : chkL (runK Tryz.prog tbA 400) 128 c128n9 = true := by kernel_rfl
noncomputable def c128n10 : List (List AV × AV) := [([.str [64, 97, 32, 98, 32, 99, 32, 100, 32, 101], .int .i64 10], .str [64, 97, 32, 98, 32, 99, 32, 100, 32, 101]),
 ([.str [78, 73, 67, 75, 76, 69, 78, 61, 49, 54], .int .i64 10], .str [78, 73, 67, 75, 76, 69, 78, 61, 49, 54]),
 ([.str [98, 107, 108, 105, 109, 110, 111, 115, 116, 118], .int .i64 10], .str [98, 107, 108, 105, 109, 110, 111, 115, 116, 118])]
set_option maxHeartbeats 0 in
theorem c128n10ok : chkL (runK Tryz.prog tbA 400) 128 c128n10 = true := by kernel_rfl
noncomputable def c128n11 : List (List AV × AV) := [([.str [67, 72, 65, 78, 84, 89, 80, 69, 83, 61, 35], .int .i64 11], .str [67, 72, 65, 78, 84, 89, 80, 69, 83, 61, 35]),
 ([.str [77, 65, 88, 76, 73, 83, 84, 61, 98, 58, 53], .int .i64 11], .str [77, 65, 88, 76, 73, 83, 84, 61, 98, 58, 53])]
set_option maxHeartbeats 0 in
theorem c128n11ok : chkL (runK Tryz.prog tbA 400) 128 c128n11 = true := by kernel_rfl
noncomputable def c128n12 : List (List AV × AV) := [([.str [64, 97, 32, 98, 32, 99, 32, 100, 32, 101, 32, 102], .int .i64 12], .str [64, 97, 32, 98, 32, 99, 32, 100, 32, 101, 32, 102]),
 ([.str [77, 65, 88, 84, 65, 82, 71, 69, 84, 83, 61, 52], .int .i64 12], .str [77, 65, 88, 84, 65, 82, 71, 69, 84, 83, 61, 52]),
 ([.str [84, 79, 80, 73, 67, 76, 69, 78, 61, 50, 48, 48], .int .i64 12], .str [84, 79, 80, 73, 67, 76, 69, 78, 61, 50, 48, 48])]
set_option maxHeartbeats 0 in
theorem c128n12ok : chkL (runK Tryz.prog tbA 400) 128 c128n12 = true := by kernel_rfl
noncomputable def c128n13 : List (List AV × AV) := [([.str [67, 72, 65, 78, 76, 73, 77, 73, 84, 61, 35, 58, 53], .int .i64 13], .str [67, 72, 65, 78, 76, 73, 77, 73, 84, 61, 35, 58, 53]),
 ([.str [67, 72, 65, 78, 78, 69, 76, 76, 69, 78, 61, 53, 48], .int .i64 13], .str [67, 72, 65, 78, 78, 69, 76, 76, 69, 78, 61, 53, 48]),
 ([.str [80, 82, 69, 70, 73, 88, 61, 40, 111, 118, 41, 64, 43], .int .i64 13], .str [80, 82, 69, 70, 73, 88, 61, 40, 111, 118, 41, 64, 43]),
 ([.str [87, 101, 108, 99, 111, 109, 101, 32, 100, 33, 117, 64, 104], .int .i64 13], .str [87, 101, 108, 99, 111, 109, 101, 32, 100, 33, 117, 64, 104]),
 ([.str [87, 101, 108, 99, 111, 109, 101, 32, 101, 33, 117, 64, 104], .int .i64 13], .str [87, 101, 108, 99, 111, 109, 101, 32, 101, 33, 117, 64, 104]),
 ([.str [87, 101, 108, 99, 111, 109, 101, 32, 102, 33, 117, 64, 104], .int .i64 13], .str [87, 101, 108, 99, 111, 109, 101, 32, 102, 33, 117, 64, 104]),
 ([.str [87, 101, 108, 99, 111, 109, 101, 32, 103, 33, 117, 64, 104], .int .i64 13], .str [87, 101, 108, 99, 111, 109, 101, 32, 103, 33, 117, 64, 104]),
 ([.str [87, 101, 108, 99, 111, 109, 101, 32, 97, 33, 117, 64, 104], .int .i64 13], .str [87, 101, 108, 99, 111, 109, 101, 32, 97, 33, 117, 64, 104]),
 ([.str [87, 101, 108, 99, 111, 109, 101, 32, 98, 33, 117, 64, 104], .int .i64 13], .str [87, 101, 108, 99, 111, 109, 101, 32, 98, 33, 117, 64, 104]),
 ([.str [87, 101, 108, 99, 111, 109, 101, 32, 99, 33, 117, 64, 104], .int .i64 13], .str [87, 101, 108, 99, 111, 109, 101, 32, 99, 33, 117, 64, 104])]
set_option maxHeartbeats 0 in
theorem c128n13ok : chkL (runK Tryz.prog tbA 400) 128 c128n13 = true := by kernel_rfl
noncomputable def c128n15 : List (List AV × AV) := [([.str [87, 101, 108, 99, 111, 109, 101, 32, 97, 110, 110, 33, 117, 64, 104], .int .i64 15], .str [87, 101, 108, 99, 111, 109, 101, 32, 97, 110, 110, 33, 117, 64, 104])]
set_option maxHeartbeats 0 in
theorem c128n15ok : chkL (runK Tryz.prog tbA 400) 128 c128n15 = true := by kernel_rfl
noncomputable def c128n17 : List (List AV × AV) := [([.str [69, 110, 100, 32, 111, 102, 32, 78, 65, 77, 69, 83, 32, 108, 105, 115, 116], .int .i64 17], .str [69, 110, 100, 32, 111, 102, 32, 78, 65, 77, 69, 83, 32, 108, 105, 115, 116])]
set_option maxHeartbeats 0 in
theorem c128n17ok : chkL (runK Tryz.prog tbA 400) 128 c128n17 = true := by kernel_rfl
noncomputable def c128n19 : List (List AV × AV) := [([.str [67, 65, 83, 69, 77, 65, 80, 80, 73, 78, 71, 61, 114, 102, 99, 49, 52, 53, 57], .int .i64 19], .str [67, 65, 83, 69, 77, 65, 80, 80, 73, 78, 71, 61, 114, 102, 99, 49, 52, 53, 57])]
set_option maxHeartbeats 0 in
theorem c128n19ok : chkL (runK Tryz.prog tbA 400) 128 c128n19 = true := by kernel_rfl
noncomputable def c128n20 : List (List AV × AV) := [([.str [77, 79, 84, 68, 32, 70, 105, 108, 101, 32, 105, 115, 32, 109, 105, 115, 115, 105, 110, 103], .int .i64 20], .str [77, 79, 84, 68, 32, 70, 105, 108, 101, 32, 105, 115, 32, 109, 105, 115, 115, 105, 110, 103])]
set_option maxHeartbeats 0 in
theorem c128n20ok : chkL (runK Tryz.prog tbA 400) 128 c128n20 = true := by kernel_rfl
noncomputable def c128n21 : List (List AV × AV) := [([.str [67, 72, 65, 78, 77, 79, 68, 69, 83, 61, 98, 44, 107, 44, 108, 44, 105, 109, 110, 115, 116], .int .i64 21], .str [67, 72, 65, 78, 77, 79, 68, 69, 83, 61, 98, 44, 107, 44, 108, 44, 105, 109, 110, 115, 116])]
set_option maxHeartbeats 0 in
theorem c128n21ok : chkL (runK Tryz.prog tbA 400) 128 c128n21 = true := by kernel_rfl
noncomputable def c128n170 : List (List AV × AV) := [([.str [67, 65, 83, 69, 77, 65, 80, 80, 73, 78, 71, 61, 114, 102, 99, 49, 52, 53, 57, 32, 67, 72, 65, 78, 84, 89, 80, 69, 83, 61, 35, 32, 80, 82, 69, 70, 73, 88, 61, 40, 111, 118, 41, 64, 43, 32, 67, 72, 65, 78, 77, 79, 68, 69, 83, 61, 98, 44, 107, 44, 108, 44, 105, 109, 110, 115, 116, 32, 78, 73, 67, 75, 76, 69, 78, 61, 49, 54, 32, 67, 72, 65, 78, 78, 69, 76, 76, 69, 78, 61, 53, 48, 32, 77, 79, 68, 69, 83, 61, 52, 32, 77, 65, 88, 84, 65, 82, 71, 69, 84, 83, 61, 52, 32, 84, 79, 80, 73, 67, 76, 69, 78, 61, 50, 48, 48, 32, 67, 72, 65, 78, 76, 73, 77, 73, 84, 61, 35, 58, 53, 32, 77, 65, 88, 76, 73, 83, 84, 61, 98, 58, 53, 32, 77, 79, 78, 73, 84, 79, 82, 61, 53, 32, 87, 65, 84, 67, 72, 61, 53], .int .i64 170], .str [67, 65, 83, 69, 77, 65, 80, 80, 73, 78, 71, 61, 114, 102, 99, 49, 52, 53, 57, 32, 67, 72, 65, 78, 84, 89, 80, 69, 83, 61, 35, 32, 80, 82, 69, 70, 73, 88, 61, 40, 111, 118, 41, 64, 43, 32, 67, 72, 65, 78, 77, 79, 68, 69, 83, 61, 98, 44, 107, 44, 108, 44, 105, 109, 110, 115, 116, 32, 78, 73, 67, 75, 76, 69, 78, 61, 49, 54, 32, 67, 72, 65, 78, 78, 69, 76, 76, 69, 78, 61, 53, 48, 32, 77, 79, 68, 69, 83, 61, 52, 32, 77, 65, 88, 84, 65, 82, 71, 69, 84, 83, 61, 52, 32, 84, 79, 80, 73, 67, 76, 69, 78, 61, 50, 48, 48, 32, 67, 72, 65, 78, 76, 73, 77, 73, 84, 61, 35, 58, 53, 32, 77, 65, 88, 76, 73, 83, 84, 61, 98, 58, 53, 32, 77, 79, 78, 73, 84, 79, 82, 61, 53, 32, 87, 65, 84, 67, 72, 61, 53])]
set_option maxHeartbeats 0 in
theorem c128n170ok : chkL (runK Tryz.prog tbA 400) 128 c128n170 = true := by kernel_rfl
noncomputable def s128 : Tbl := (((((((((((((((((((T.leaf.set 1 c128n1).set 2 c128n2).set 3 c128n3).set 4 c128n4).set 5 c128n5).set 6 c128n6).set 7 c128n7).set 8 c128n8).set 9 c128n9).set 10 c128n10).set 11 c128n11).set 12 c128n12).set 13 c128n13).set 15 c128n15).set 17 c128n17).set 19 c128n19).set 20 c128n20).set 21 c128n21).set 170 c128n170)
theorem s128ok : TblOk (runK Tryz.prog tbA 400) 128 s128 := (((((((((((((((((((TblOk.leaf.set c128n1ok).set c128n2ok).set c128n3ok).set c128n4ok).set c128n5ok).set c128n6ok).set c128n7ok).set c128n8ok).set c128n9ok).set c128n10ok).set c128n11ok).set c128n12ok).set c128n13ok).set c128n15ok).set c128n17ok).set c128n19ok).set c128n20ok).set c128n21ok).set c128n170ok)
end Go.Proofs.YtfbnndaopllciaaGreatDoor
