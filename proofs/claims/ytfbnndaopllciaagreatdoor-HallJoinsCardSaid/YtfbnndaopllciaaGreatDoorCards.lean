/-
  DERIVED. GIVEN WITH THE SEED: THE CARDS: each row of YtfbnndaopllciaaGreatDoorRows.lean that lists a variable, with what it lists TIED to the program's text (the seventh form; the later family's looks); each row that meets fmt, with fmt's text TOLD by the authors' own Lean function (tested against real Go, not proved from fmt's source: count such statements apart). THE CARD IS WHAT COUNTS. Prove the row's statement (the work); the ties are given (YtfbnndaopllciaaGreatDoorTie.lean); close each card by the builder's one call (the guide's Derived/Test/ToyasCard.lean, 'card_holds'). Laid BY PROGRAM, IN A SANDBOX (cutbox-door.mjs). By AI agents, Wed Nov 11 2026. No macro, syntax, notation, axiom, sorry.
-/
import Derived.Test.YtfbnndaopllciaaGreatDoorRows
import GoSem.ClaimSeven
namespace Go.Proofs.YtfbnndaopllciaaGreatDoor
namespace Rows

/-- THE TIED CARD OF 'rollcalllaw25.HallJoins'. -/
def hallJoinsCard : Claim7 := { stood := { row := hallJoinsRow, standIns := [], harness := (true, "57ae24fc418fa6d540a29f4aa320c1c725e02c05c9d3d797c8e1dda3b2cb12be"), looks := true }, kinds := [], alts := [], laidByText := true, laidKinds := [.data, .data, .data, .data, .sentinel, .sentinel, .pinned], laidTests := true, laidLooks := .later }
def HallJoinsCardSaid : Prop := Claim7.holds Tryz.pinned (.plain (OpenSpec.ofChange hallJoinsSpec)) hallJoinsCard

/-- THE SECOND FORM's CARD OF 'rollcalllaw25.HallJoins'. -/
def hallJoinsUptoCard : Claim7 := { stood := { row := hallJoinsUptoRow, standIns := [], harness := (true, "57ae24fc418fa6d540a29f4aa320c1c725e02c05c9d3d797c8e1dda3b2cb12be"), looks := true }, kinds := [], alts := [], laidByText := true, laidKinds := [.data, .data, .data, .data, .sentinel, .sentinel, .pinned], laidTests := true, laidLooks := .later }
def HallJoinsUptoCardSaid : Prop := Claim7.holds Tryz.pinned (.plain (OpenSpec.upto hallJoinsSpec)) hallJoinsUptoCard
end Rows
end Go.Proofs.YtfbnndaopllciaaGreatDoor
