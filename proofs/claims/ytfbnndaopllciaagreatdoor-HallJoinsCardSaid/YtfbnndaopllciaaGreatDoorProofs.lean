/- HallJoins returns true at every number, and of what was there nothing turns: the row. (Printed by a program.) -/
import Derived.Test.YtfbnndaopllciaaGreatDoorRows
import Derived.Test.YtfbnndaopllciaaGreatDoorTie
import Derived.Test.YtfbnndaopllciaaGreatDoorJoined
import Derived.Test.YtfbnndaopllciaaGreatDoorCards
import Derived.Test.YtfbnndaopllciaaGreatDoorRun0
import Derived.Test.YtfbnndaopllciaaGreatDoorRun1
import Derived.Test.YtfbnndaopllciaaGreatDoorRun2
import Derived.Test.YtfbnndaopllciaaGreatDoorRun3
import Derived.Test.YtfbnndaopllciaaGreatDoorRun4
import Derived.Test.YtfbnndaopllciaaGreatDoorRun5
import Derived.ProofKit
import Derived.Handy
import Derived.Lay
import Derived.SevenTiedAt
import Derived.KernelRfl
import Derived.Below
namespace Go.Proofs.YtfbnndaopllciaaGreatDoor
open Go Go.Eng
open Go.Proofs Go.ChangeShapes Go.WideShapes Go.ChangeAt Go.RowKit
theorem runAt (r : Nat) (hr : r < 6) : isT (runK Tryz.prog tbC 400 3 [.sym (.res .u8 6 r)] ⟨.leaf, 0⟩) = true := by
  match r, hr with
  | 0, _ => exact run0
  | 1, _ => exact run1
  | 2, _ => exact run2
  | 3, _ => exact run3
  | 4, _ => exact run4
  | 5, _ => exact run5

/-- THE WALK: whatever the number, the law returns true, and what was there before is as it was. -/
theorem law (x : Int) (h0 : 0 ≤ x) (h1 : x ≤ 255) (W : World) : Calls Tryz.prog 3 #[.int .u8 x] W fun e W' => e = .returned (.bool true) ∧ Below W.heap.size W W' := by
  obtain ⟨n, rfl⟩ := Int.eq_ofNat_of_zero_le h0
  have hr := runAt (n % 6) (Nat.mod_lt _ (by omega))
  generalize hz : runK Tryz.prog tbC 400 3 [.sym (.res .u8 6 (n % 6))] ⟨.leaf, 0⟩ = z at hr
  unfold isT at hr
  split at hr
  · rename_i b S
    subst hr
    obtain ⟨_, _, h⟩ := runs sumC_ok 3 _ _ _ _ hz
    have hH : HRel (fun _ => Option.none) rho (T.leaf : T AObj) W := ⟨(fun b o h => by rw [T.get_leaf] at h; cases h), (fun b b' o o' k k' h => by rw [T.get_leaf] at h; cases h)⟩
    have hA : VRels (fun _ => Option.none) rho [AV.sym (.res .u8 6 (n % 6))] (#[Value.int .u8 (n : Int)] : Array Value).toList :=
      VRels.cons (by simp only [VRel, SyRel]; exact ⟨n, rfl, by omega, rfl⟩) VRels.nil
    refine (callsIn_wide.1 (h (fun _ => Option.none) W _ hH (fun _ _ _ => rfl) hA)).mono ?_
    rintro e W' ⟨V, μ', rfl, st⟩
    have hv := st.val
    simp only [VRel] at hv
    subst hv
    have hno : ∀ B, ¬ tracked (T.leaf : T AObj) (fun _ => Option.none) B := by
      rintro B ⟨x, ox, kx, hx, _⟩
      rw [T.get_leaf] at hx; cases hx
    exact ⟨rfl, st.ext.os, st.ext.tape, st.ext.output, st.ext.size, fun k hk => st.ext.frame k hk (hno k)⟩
  · cases hr

theorem own : ownKnob Tryz.prog.godebug = Option.none := by kernel_rfl
set_option maxRecDepth 100000 in
theorem lifted (os : Os) (started : os.Started) (H : Type) (enc : TypeId × Value → H) :
    ReturnsInHanded {} Tryz.checked os 3 .any (fun w args => (Rows.hallJoinsSpec.pre enc Tryz.prog Tryz.f3 [] false w args ∧ laidMetH Tryz.prog Rows.hallJoinsRow.laid w) ∧ sizedMet enc Tryz.prog Tryz.f3 (OpenSpec.ofChange Rows.hallJoinsSpec) false w args)
      (Rows.hallJoinsSpec.post enc Tryz.prog Tryz.f3 false true false false) := by
  refine returnsInHanded_of_change_and (C := Tryz.checked) (X := fun w _ => laidMetH Tryz.prog Rows.hallJoinsRow.laid w) (fun _ _ _ hh h => h.of_heap hh) own started (by kernel_rfl) Tryz.func3
    (ChangeSpec.witness_shaped (enc := enc) (C := Tryz.checked) (os := os) (X := fun w _ => laidMetH Tryz.prog Rows.hallJoinsRow.laid w) false (World.laidAll Tryz.prog os Rows.hallJoinsRow.laid) #[.int .u8 0] 8 (World.laidAll_os _ _ _)
      (World.shaped_of_ZipB (by kernel_rfl) (by kernel_rfl)) (by kernel_rfl) (by kernel_rfl) (by kernel_rfl)
      (by rw [MakeChecks.laidMetH_plain _ _ _ (by kernel_rfl)]; exact laidMet_laidAll _ (by kernel_rfl) (by kernel_rfl))) ?_
  intro W base args ds gs before hval0 hW _ _ _ _
  have hval : ∀ (j : Nat) t v, Tryz.f3.params[j]? = some t → args[j]? = some v → Value.okWide Tryz.prog W .any base t v := hval0
  have hW' := hW
  obtain ⟨p, q, hA0, hV, rfl, _, _⟩ := hW
  have hA : DataW.TrodAll enc Tryz.prog W 0 (fun _ => true) true Tryz.f3.params.toList args.toList ds p := hA0
  rw [Tryz.params3] at hA hval
  obtain ⟨v0, d0, rfl, rfl, h0⟩ := trodAll_one hA
  obtain ⟨rfl, rfl⟩ := trodVars_none hV
  obtain ⟨x, rfl, rfl, rfl, wx⟩ := open_int Tryz.underlying5 (hval 0 5 v0 rfl rfl) h0
  have hx : 0 ≤ x ∧ x ≤ 255 := by simpa [Lit.wf, IntKind.min, IntKind.max, IntKind.signed, IntKind.bits] using wx
  simp only [List.append_nil] at hW'
  refine (law x hx.1 hx.2 W).mono fun e W' ⟨he, hb⟩ => ?_
  subst he
  exact ⟨_, rfl, _, _, _, [], [], [], hW', trodAll_mk1 (shut_bool Tryz.underlying4 _), trodAll_mk1 (shut_int Tryz.underlying5 wx), rfl, hb.frame _, fun h => by cases h⟩
theorem hallJoins_holds : Rows.HallJoinsSaid :=
  OpenClaim.holds_of_wide 3 Tryz.f3 rfl rfl rfl rfl rfl rfl rfl ⟨rfl, rfl, rfl, rfl, rfl⟩ rfl rfl rfl rfl rfl (by kernel_rfl) Tryz.func3 joinedIs
    (of_decide_eq_true (by kernel_rfl)) (by unfold Func.isWrapper; first | (rw [if_pos (by decide +kernel)]; kernel_rfl) | (rw [if_neg (by decide +kernel)]; exact ⟨rfl, rfl⟩))
    (fun os started H enc _ => lifted os started H enc)
end Go.Proofs.YtfbnndaopllciaaGreatDoor
