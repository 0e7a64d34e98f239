/- The closed facts of HallJoins's row. (Printed by a program.) -/
import Derived.Test.YtfbnndaopllciaaGreatDoorRows
import Derived.JoinedOf
import Derived.KernelRfl
namespace Go.Proofs.YtfbnndaopllciaaGreatDoor
open Go
set_option maxRecDepth 100000
noncomputable def closeList : List FuncId := [3, 4, 6, 5, 13, 34, 40, 64, 113, 62, 63, 112, 185, 259, 35, 14, 15, 16, 36, 37, 17, 18, 38, 7, 19, 39, 29, 41, 42, 43, 65, 114, 186, 115, 116, 189, 260, 188, 187, 66, 117, 190, 191, 261, 335, 20, 44, 67, 118, 26, 27, 55, 24, 57, 58, 108, 119, 120, 192, 46, 25, 60, 110, 111, 184, 59, 109, 105, 128, 202, 203, 271, 341, 204, 172, 248, 221, 291, 292, 222, 293, 356, 357, 358, 389, 266, 338, 380, 250, 264, 337, 173, 174, 249, 320, 319, 321, 323, 370, 322, 325, 372, 398, 371, 397, 406, 324, 175, 176, 251, 326, 373, 374, 327, 199, 252, 328, 139, 194, 217, 23, 56, 287, 286, 353, 206, 273, 344, 382, 383, 402, 256, 255, 329, 149, 223, 294, 295, 284, 226, 345, 132, 134, 208, 276, 277, 209, 278, 279, 349, 384, 160, 234, 236, 235, 308, 275, 211, 281, 347, 348, 274, 346, 85, 153, 135, 288, 86, 92, 82, 154, 162, 155, 227, 299, 359, 390, 360, 237, 309, 364, 300, 238, 233, 307, 310, 163, 224, 296, 297, 239, 103, 164, 240, 289, 290, 354, 388, 355, 212, 272, 342, 343, 282, 215, 285, 352, 386, 387, 404, 136, 210, 280, 102, 171, 247, 315, 316, 366, 365, 367, 317, 318, 368, 369, 395, 396, 30, 32, 193, 262, 336, 243, 311, 312, 313, 195, 263, 216, 68, 122, 121, 196, 265, 267, 339, 381, 268, 197, 123, 124, 125, 198, 269, 126, 79, 147, 220, 200, 270, 340, 201, 69, 70, 127, 71, 129, 148, 130, 205, 131, 133, 11, 207, 161, 137, 213, 283, 350, 351, 385, 403, 214, 72, 73, 74, 138, 75, 140, 141, 142, 81, 143, 145, 218, 150, 152, 225, 298, 219, 144, 146, 76, 77, 78, 22, 45, 9, 31, 61, 8, 21, 47, 80, 28, 83, 84, 151, 87, 156, 33, 157, 228, 229, 301, 302, 361, 391, 392, 405, 410, 230, 158, 231, 303, 304, 362, 393, 159, 232, 305, 306, 363, 394, 88, 91, 94, 95, 99, 166, 96, 165, 241, 242, 48, 89, 90, 49, 93, 50, 97, 51, 98, 52, 101, 168, 169, 244, 246, 245, 314, 170, 100, 167, 53, 104, 54, 106, 177, 178, 183, 258, 253, 179, 180, 254, 181, 257, 330, 331, 332, 375, 333, 376, 399, 407, 411, 416, 419, 420, 408, 412, 417, 413, 414, 418, 415, 334, 377, 400, 409, 401, 379, 378, 182, 107, 10, 12]
set_option maxHeartbeats 0 in
theorem closeIs : Tryz.prog.closure 3 = closeList := by kernel_rfl
set_option maxHeartbeats 0 in
theorem inPlaceIs : (Rows.hallJoinsRow.inPlace == Tryz.prog.inPlace 3) = true := by
  unfold Program.inPlace; rw [closeIs]; kernel_rfl
theorem unfollowedIs : Tryz.prog.unfollowed 3 = true := by
  unfold Program.unfollowed; rw [closeIs]; kernel_rfl
theorem recursesIs : Tryz.prog.recurses 3 = true := by
  unfold Program.recurses; rw [unfollowedIs]; rfl
set_option maxHeartbeats 0 in
theorem namedIs : (Rows.hallJoinsRow.named == Tryz.prog.varsNamed 3) = true := by
  unfold Program.varsNamed; rw [closeIs]; kernel_rfl
set_option maxHeartbeats 0 in
theorem joinedIs : joinedFacts Tryz.prog 3 Tryz.f3 Rows.hallJoinsSpec Rows.hallJoinsRow = true := by
  unfold joinedFacts
  rw [inPlaceIs, namedIs, recursesIs, unfollowedIs]
  kernel_rfl
end Go.Proofs.YtfbnndaopllciaaGreatDoor
