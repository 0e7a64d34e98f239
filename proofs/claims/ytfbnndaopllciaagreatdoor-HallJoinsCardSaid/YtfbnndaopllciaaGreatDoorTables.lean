/- The closed calls that are reckoned once, together. (Printed by a program.) -/
import Derived.Test.YtfbnndaopllciaaGreatDoorKinds
import Derived.Test.YtfbnndaopllciaaGreatDoorFacts64
import Derived.Test.YtfbnndaopllciaaGreatDoorFacts128
import Derived.Test.YtfbnndaopllciaaGreatDoorFacts313
import Derived.Test.YtfbnndaopllciaaGreatDoorFacts174
import Derived.Test.YtfbnndaopllciaaGreatDoorFacts172
namespace Go.Proofs.YtfbnndaopllciaaGreatDoor
open Go Go.Eng
noncomputable def sumB : T Sum := (((((sumA).set 64 (tblS s64)).set 128 (tblS s128)).set 313 (tblS s313)).set 174 (tblS s174)).set 172 (tblS s172)
theorem sumB_ok : SumOk Tryz.prog rho sumB := (((((sumA_ok).set (sum_tbl (runs sumA_ok) s64ok)).set (sum_tbl (runs sumA_ok) s128ok)).set (sum_tbl (runs sumA_ok) s313ok)).set (sum_tbl (runs sumA_ok) s174ok)).set (sum_tbl (runs sumA_ok) s172ok)
noncomputable def tbB : Tabs := ⟨tab, sumB, ext, two, free⟩
end Go.Proofs.YtfbnndaopllciaaGreatDoor
