/- HallJoins returns true at every number, and its argument reads as before: the tied card. Conditions: none but those that the given card bears. (Printed by a program.) -/
import Derived.Test.YtfbnndaopllciaaGreatDoorProofs
namespace Go.Proofs.YtfbnndaopllciaaGreatDoor
open Go Go.Eng
open Go.Proofs
theorem noGo : Tryz.prog.funcs.toList.all (fun fn => !fn.goes) = true := by kernel_rfl
theorem noGoAt (g : FuncId) : (Tryz.prog.funcs[g]?).any Func.goes = false := by
  cases h : Tryz.prog.funcs[g]? with
  | none => rfl
  | some fn =>
    have hm : fn ∈ Tryz.prog.funcs.toList := by
      rw [Array.mem_toList_iff]; exact Array.mem_of_getElem? h
    have := List.all_eq_true.1 noGo fn hm
    simpa using this
theorem noGoAny : Tryz.prog.funcs.any Func.goes = false := by
  rw [Array.any_eq_false]
  intro i hi
  have := noGoAt i
  rw [Array.getElem?_eq_getElem hi] at this
  simpa using this
theorem goes_not (f : FuncId) : Tryz.prog.goes f = false := by
  unfold Program.goes
  rw [noGoAny, Bool.and_false, Bool.or_false]
  simp [noGoAt]
theorem goesBy_not (c : OpenClaim) (hs : c.start = .entering) : c.goesBy Tryz.prog = false := by
  unfold OpenClaim.goesBy Program.goesAt Program.goesFrom
  rw [hs]
  cases Tryz.prog.funcNamed c.func <;> simp [goes_not]
set_option maxRecDepth 100000 in
theorem hallJoins_card : Rows.HallJoinsCardSaid :=
  Claim7.holds_tied_plain_at .later [] [.data, .data, .data, .data, .sentinel, .sentinel, .pinned] true (true, "57ae24fc418fa6d540a29f4aa320c1c725e02c05c9d3d797c8e1dda3b2cb12be") true
    hallJoins_holds (fun _ h => by cases h) (by kernel_rfl) (fun _ h => by cases h) hallJoins_row_tie rfl ⟨rfl, rfl⟩ (by kernel_rfl) rfl
    (fun f fn hf hfn => by
      obtain rfl : f = 3 := Option.some.inj ((show Tryz.prog.funcNamed "rollcall/rollcalllaw25.HallJoins" = some 3 by kernel_rfl).symm.trans hf) |>.symm
      obtain rfl : fn = Tryz.f3 := (Option.some.inj (Tryz.func3.symm.trans hfn)).symm
      exact ⟨by kernel_rfl, fun j t ht => by
        rw [Tryz.params3] at ht
        have hm : t ∈ [5] := by simpa using Array.mem_of_getElem? ht
        have hall : ([5].all fun u => !Tryz.prog.wantsStandIn u) = true := by kernel_rfl
        exact (show Tryz.prog.wantsStandIn t = false by simpa using List.all_eq_true.1 hall t hm)⟩)
    (goesBy_not _ rfl).symm
#print axioms hallJoins_card
end Go.Proofs.YtfbnndaopllciaaGreatDoor
