/- An evaluator of Go code over abstract values and memory, proved sound, part D: codes and calls, as the evaluator runs them, come to what the model comes to (Calls, in the wide fence). No condition but those that each theorem names. -/
import Derived.Test.YtfbnndaopllciaaGreatDoorEngC
import Derived.LoopNIn
import Derived.RangeFuncNested
/- Engine, part 16: the evaluator. -/
namespace Go.Eng
open Go

inductive ADef where
  | mark (b : Nat)
  | call (f : FuncId) (args : List AV)

structure Fr where
  tmps : ET
  ntm : Nat
  defers : List ADef

inductive AX where
  | normal
  | ret
  | exit (id : Nat)

inductive Cls where
  | pure | read | alloc | eff | call | defer | none

def Cls.loud : Cls → Bool
  | .eff | .call | .defer | .none => true
  | _ => false

/-- what kind of operation this is -/
def ocls (P : Program) (op : Op) : Cls :=
  match op with
  | .load .. | .lookup .. => .read
  | .alloc .. | .box .. | .buildSlice .. | .makeMap .. | .makeSlice .. => .alloc
  | .store .. | .mapUpdate .. | .insert .. => .eff
  | .call ⟨.value _, _, _⟩ => .call
  | .call ⟨.builtin b, _, ts⟩ => (match b with
    | .len => (match ts[0]? with
      | some t => (match P.underlying t with | some (.map _ _) => .read | _ => .pure)
      | none => .none)
    | .min | .max | .cap | .unsafeSliceData => .pure
    | .append | .copy | .clear | .delete | .unsafeString => .eff
    | _ => .none)
  | .call _ => .none
  | .convert s d _ => (match P.underlying s, P.underlying d with
    | some .string, some (.slice _) => .alloc
    | some (.slice _), some (.slice _) => .eff
    | some (.slice _), _ => .read
    | some (.pointer _), some .unsafePointer => .read
    | some .unsafePointer, some (.pointer _) => .read
    | _, _ => .pure)
  | .defer _ => .defer
  | _ => .pure

noncomputable def aev (fr : Fr) (x : Operand) : Option AV :=
  match x with
  | .tmp t => (match Nat.ble (Nat.succ t) fr.ntm with
    | true => some (fr.tmps.at t)
    | false => none)
  | .const v => absC v
  | .func f => some (.fn (.func f) [] [])
  | .global _ => none

noncomputable def aput (fr : Fr) (dst : Option Tmp) (v : AV) : Option Fr :=
  match dst with
  | none => some fr
  | some d => (match Nat.ble (Nat.succ d) (lim fr.ntm) with
    | true => some ⟨fr.tmps.set d v, fr.ntm, fr.defers⟩
    | false => none)

/-- an operation that calls nothing -/
noncomputable def aplain (P : Program) (o : Oper) (fr : Fr) (S : St) : Option (AV × St) :=
  match ocls P o.op with
  | .pure => (match aP P (aev fr) o.op with | some v => some (v, S) | none => none)
  | .read => (match aR P (aev fr) o.op S.heap with | some v => some (v, S) | none => none)
  | .alloc => (match aA P (aev fr) o.op with | some p => some (p.2 S.next, ⟨S.heap.set S.next p.1, Nat.succ S.next⟩) | none => none)
  | .eff => aE P (aev fr) o.op S
  | _ => none

/-- whether a guarded operation is wanted -/
noncomputable def awanted (all : List Oper) (o : Oper) (fr : Fr) : Option Bool :=
  match o.guard with
  | none => some true
  | some p => (match nthL all p.1 with
    | some q => (match q.dst with
      | some d => (match aev fr (.tmp d) with
        | some (.bool b) => some (Bool.rec (!b) b p.2)
        | some (.tup []) => some false
        | _ => none)
      | none => none)
    | none => none)

abbrev CallF := FuncId → List AV → St → Option (AV × St)
abbrev CodeF := Option Nat → Code → Fr → St → Option (AX × Fr × St)

noncomputable def putArgs (ps : List Tmp) (n : Nat) (vs : List AV) : ET → Option ET :=
  List.rec (motive := fun _ => List AV → ET → Option ET) (fun vs t => match vs with | [] => some t | _ => none)
    (fun p _ ih vs t => match vs with
      | [] => none
      | v :: vs => (match Nat.ble (Nat.succ p) (lim n) with | true => ih vs (t.set p v) | false => none)) ps vs

def jumpOf : AX → Option Code
  | .normal => none
  | .ret => some .ret
  | .exit id => some (.exit id)
def axOf : Option Code → Option AX
  | none => some .normal
  | some .ret => some .ret
  | some (.exit id) => some (.exit id)
  | _ => none
def isNormal : AX → Bool | .normal => true | _ => false

/-- one round of a range over a function -/
noncomputable def roundF (codeF : CodeF) (l : Nat) (vs : List AV) (S : St) : Option (AV × St) :=
  match S.heap.get l with
  | some (.loop r) => (match r.state, putArgs r.params.toList r.ntm vs r.tmps with
    | .ready, some t => (match codeF (some l) r.assign ⟨t, r.ntm, []⟩ S with
      | some (.normal, fr1, S1) => (match S1.heap.get l with
        | some (.loop r1) => (match r1.state with
          | .ready => (match codeF (some l) r.body fr1 ⟨S1.heap.set l (.loop { r1 with state := .busy }), S1.next⟩ with
            | some (x, _, S3) => (match S3.heap.get l with
              | some (.loop r3) => some (.bool (isNormal x), ⟨S3.heap.set l (.loop { r3 with state := (match isNormal x with | true => .ready | false => .done), pending := jumpOf x }), S3.next⟩)
              | _ => none)
            | none => none)
          | _ => none)
        | _ => none)
      | _ => none)
    | _, _ => none)
  | _ => none

/-- any operation -/
noncomputable def stepF (P : Program) (callF : CallF) (codeF : CodeF) (ro : Option Nat) (o : Oper) (fr : Fr) (S : St) : Option (AV × Fr × St) :=
  match o.op with
  | .call ⟨.value g, args, _⟩ => (match aev fr g, evs (aev fr) args.toList with
    | some (.fn (.func f) A B), some vs => (match callF f (appL A (appL vs B)) S with | some p => some (p.1, fr, p.2) | none => none)
    | some (.fn (.yield l) [] []), some vs => (match roundF codeF l vs S with | some p => some (p.1, fr, p.2) | none => none)
    | _, _ => none)
  | .defer ⟨.value g, args, _⟩ => (match ro, aev fr g, evs (aev fr) args.toList with
    | none, some (.fn (.func f) A B), some vs => some (undefV, ⟨fr.tmps, fr.ntm, .call f (appL A (appL vs B)) :: fr.defers⟩, S)
    | _, _, _ => none)
  | _ => (match aplain P o fr S with | some p => some (p.1, fr, p.2) | none => none)

/-- a region whose operations stand in order -/
noncomputable def opsF (P : Program) (callF : CallF) (codeF : CodeF) (ro : Option Nat) (all : List Oper) (l : List Oper) : Fr → St → Option (Fr × St) :=
  List.rec (motive := fun _ => Fr → St → Option (Fr × St)) (fun fr S => some (fr, S))
    (fun o _ ih fr S => match awanted all o fr with
      | some true => (match stepF P callF codeF ro o fr S with
        | some (v, fr', S') => (match aput fr' o.dst v with | some fr'' => ih fr'' S' | none => none)
        | none => none)
      | some false => (match aput fr o.dst undefV with | some fr' => ih fr' S | none => none)
      | none => none) l
end Go.Eng
/- Engine, part 17: one operation of a frame, and regions in order, are sound. -/
namespace Go.Eng
open Go

def DRels (μ : Mu) (ρ : Rho) : List ADef → List Deferred → Prop
  | [], L => L = []
  | .mark b :: ds, L => ∃ k D, μ b = some k ∧ L = { target := .collected k.block, args := #[] } :: D ∧ DRels μ ρ ds D
  | .call f args :: ds, L => ∃ d cap D, L = d :: D ∧ d.target = .fn (.func f) cap ∧ VRels μ ρ args (d.args ++ cap).toList ∧ DRels μ ρ ds D

structure FRel (μ : Mu) (ρ : Rho) (fr : Fr) (a : Act) : Prop where
  tmps : TRel μ ρ fr.tmps fr.ntm a.tmps
  defers : DRels μ ρ fr.defers a.defers

theorem DRels.mono {μ μ' : Mu} {ρ : Rho} (h : Sub μ μ') : ∀ {ds : List ADef} {L : List Deferred}, DRels μ ρ ds L → DRels μ' ρ ds L
  | [], _, r => r
  | .mark b :: ds, _, r => by obtain ⟨k, D, hk, e, r⟩ := r; exact ⟨k, D, h _ _ hk, e, DRels.mono h r⟩
  | .call f args :: ds, _, r => by obtain ⟨d, cap, D, e, ht, hv, r⟩ := r; exact ⟨d, cap, D, e, ht, VRels.mono h _ _ hv, DRels.mono h r⟩
theorem FRel.mono {μ μ' : Mu} {ρ : Rho} {fr : Fr} {a : Act} (h : Sub μ μ') (r : FRel μ ρ fr a) : FRel μ' ρ fr a := ⟨r.tmps.mono h, r.defers.mono h⟩

/-- what is left behind -/
structure Left (P : Program) (ρ : Rho) (μ : Mu) (S : St) (w : World) (fr' : Fr) (S' : St) (a' : Act) (w' : World) (μ' : Mu) : Prop where
  fr : FRel μ' ρ fr' a'
  heap : HRel μ' ρ S'.heap w'
  grow : Grow μ S.next S'.next μ'
  ext : Ext μ S.heap w μ' S'.heap w'

def xrel : AX → Exit → Prop
  | .normal, e => e = .normal
  | .ret, e => e = .ret
  | .exit id, e => e = .exit id

def CPost (P : Program) (ρ : Rho) (μ : Mu) (S : St) (w : World) (x : AX) (fr' : Fr) (S' : St) : Exit → Act → World → Prop :=
  fun e a' w' => xrel x e ∧ ∃ μ', Left P ρ μ S w fr' S' a' w' μ'

/-- the fence in which a frame walks -/
def FOf (μ : Mu) : Option Nat → Fence → Prop
  | none, F => F = Fence.wide
  | some l, F => ∃ k, μ l = some k ∧ F = Fence.wide.inRound k.block

theorem FOf.mono {μ μ' : Mu} (h : Sub μ μ') {ro : Option Nat} {F : Fence} (r : FOf μ ro F) : FOf μ' ro F := by
  cases ro with
  | none => exact r
  | some l => obtain ⟨k, hk, e⟩ := r; exact ⟨k, h _ _ hk, e⟩
theorem FOf.fn {μ : Mu} {ro : Option Nat} {F : Fence} (r : FOf μ ro F) (f : FuncId) : F.fn f := by
  cases ro with
  | none => cases r; trivial
  | some l => obtain ⟨k, hk, rfl⟩ := r; trivial
theorem FOf.depth {μ : Mu} {ro : Option Nat} {F : Fence} (r : FOf μ ro F) : F.depth.isSome = true → 1 ≤ 0 := by
  cases ro with
  | none => cases r; intro h; cases h
  | some l => obtain ⟨k, hk, rfl⟩ := r; intro h; cases h

/-- what a call comes to -/
def CallPost (P : Program) (ρ : Rho) (μ : Mu) (S : St) (w : World) (v : AV) (S' : St) : Ending → World → Prop :=
  fun e w' => ∃ V μ', e = .returned V ∧ Stepped P ρ μ S w v S' V w' μ'

def CallFOk (P : Program) (ρ : Rho) (callF : CallF) : Prop := ∀ f args S v S', callF f args S = some (v, S') → S.next ≤ S'.next ∧ (∀ A w, (callFunc f A).run P w = .ok (.enter f A) w) ∧
  ∀ μ w (A : Array Value), HRel μ ρ S.heap w → Fresh μ S.next S'.next → VRels μ ρ args A.toList → CallsIn Fence.wide 0 P f A w (CallPost P ρ μ S w v S')

def CodeFOk (P : Program) (ρ : Rho) (codeF : CodeF) : Prop := ∀ ro c fr S x fr' S', codeF ro c fr S = some (x, fr', S') → S.next ≤ S'.next ∧
  ∀ μ w a F, FOf μ ro F → HRel μ ρ S.heap w → Fresh μ S.next S'.next → FRel μ ρ fr a → c.wpIn F 0 P (CPost P ρ μ S w x fr' S') a w

/-- what a call comes to that may be answered at once -/
def CallXOk (P : Program) (ρ : Rho) (callX : CallF) : Prop := ∀ f args S v S', callX f args S = some (v, S') → S.next ≤ S'.next ∧
  ∀ μ w (A : Array Value), HRel μ ρ S.heap w → Fresh μ S.next S'.next → VRels μ ρ args A.toList →
    ((callFunc f A).run P w = .ok (.enter f A) w ∧ CallsIn Fence.wide 0 P f A w (CallPost P ρ μ S w v S')) ∨ ∃ V w' μ', (callFunc f A).run P w = .ok (.value V) w' ∧ Stepped P ρ μ S w v S' V w' μ'
theorem CallFOk.x {P : Program} {ρ : Rho} {callF : CallF} (h : CallFOk P ρ callF) : CallXOk P ρ callF := by
  intro f args S v S' hl
  obtain ⟨h1, h2, h3⟩ := h f args S v S' hl
  exact ⟨h1, fun μ w A hh hf hv => .inl ⟨h2 A w, h3 μ w A hh hf hv⟩⟩

/-- functions that the model answers itself -/
def ExtOk (P : Program) (ρ : Rho) (f : FuncId) (g : List AV → St → Option (AV × St)) : Prop := ∀ args S v S', g args S = some (v, S') → S.next ≤ S'.next ∧
  ∀ μ w (A : Array Value), HRel μ ρ S.heap w → Fresh μ S.next S'.next → VRels μ ρ args A.toList → ∃ V w' μ', (callFunc f A).run P w = .ok (.value V) w' ∧ Stepped P ρ μ S w v S' V w' μ'
abbrev AnsF := List AV → St → Option (AV × St)
noncomputable def callX (ext : T AnsF) (callF : CallF) : CallF := fun f args S => match ext.get f with | some g => g args S | none => callF f args S
theorem callX_ok {P : Program} {ρ : Rho} {ext : T AnsF} (he : ∀ f g, ext.get f = some g → ExtOk P ρ f g) {callF : CallF} (h : CallFOk P ρ callF) : CallXOk P ρ (callX ext callF) := by
  intro f args S v S' hl
  unfold callX at hl
  split at hl
  · rename_i g eg
    obtain ⟨h1, h2⟩ := he f g eg args S v S' hl
    exact ⟨h1, fun μ w A hh hf hv => .inr (h2 μ w A hh hf hv)⟩
  · exact h.x f args S v S' hl

section
variable {P : Program} {μ : Mu} {ρ : Rho} {S S' : St} {w : World} {fr fr' : Fr} {a : Act}
theorem FRel.ev (h : FRel μ ρ fr a) : EvRel μ ρ (aev fr) a.eval := by
  intro x v hx
  cases x with
  | tmp t =>
    simp only [aev] at hx
    split at hx
    · rename_i hb
      have hb := Nat.le_of_ble_eq_true hb
      obtain ⟨V, hV, r⟩ := h.tmps.2 t hb
      have e : a.eval (.tmp t) = V := by simp [Act.eval, Array.getD_eq_getD_getElem?, hV]
      rw [e]
      cases hx; exact r
    · cases hx
  | const c => exact absC_ok (v := c) hx
  | func f => simp only [aev, Option.some.injEq] at hx; subst hx; simp only [VRel]; exact ⟨_, _, _, rfl, rfl, VRels.nil, VRels.nil⟩
  | global g => simp [aev] at hx

theorem TRel.set (h : TRel μ ρ fr.tmps fr.ntm a.tmps) {d : Nat} (hd : d < fr.ntm ∧ d < 512) {v : AV} {V : Value} (hv : VRel μ ρ v V) : TRel μ ρ (fr.tmps.set d v) fr.ntm (a.tmps.setIfInBounds d V) := by
  refine ⟨by simp [h.1], fun i hi => ?_⟩
  rw [ET.at_set _ _ _ _ hd.2]
  by_cases e : i = d
  · subst e; exact ⟨V, by rw [Array.getElem?_setIfInBounds, if_pos rfl, if_pos (by rw [h.1]; exact hi)], by rw [if_pos rfl]; exact hv⟩
  · obtain ⟨U, hU, r⟩ := h.2 i hi
    exact ⟨U, by rw [Array.getElem?_setIfInBounds, if_neg (fun e' => e e'.symm)]; exact hU, by rw [if_neg e]; exact r⟩

theorem aput_ok (h : FRel μ ρ fr a) {dst : Option Tmp} {v : AV} {V : Value} (hp : aput fr dst v = some fr') (hv : VRel μ ρ v V) : FRel μ ρ fr' (a.put dst V) := by
  unfold aput at hp
  split at hp
  · cases hp; exact h
  · rename_i d
    split at hp
    · rename_i hb
      have hb := lim_ok hb
      cases hp
      exact ⟨h.tmps.set hb hv, h.defers⟩
    · cases hp

theorem awanted_ok (h : FRel μ ρ fr a) {ops : Array Oper} {o : Oper} {b : Bool} (hw : awanted ops.toList o fr = some b) : Region.wanted o (yielded ops a.tmps) = b := by
  unfold awanted at hw
  unfold Region.wanted
  split at hw
  · rename_i e; rw [e]; simpa using hw
  · rename_i p e
    rw [e]
    obtain ⟨j, want⟩ := p
    split at hw
    · rename_i q eq
      rw [nthL_eq] at eq
      split at hw
      · rename_i d ed
        split at hw
        · rename_i b' eb
          have hv := h.ev _ _ eb
          simp only [VRel] at hv
          have hy : yielded ops a.tmps j = some b' := by
            have e1 : ops[j]? = some q := by simpa using eq
            have e2 : a.tmps[d]? = some (.bool b') := by
              simp only [Act.eval, Array.getD_eq_getD_getElem?] at hv
              cases h' : a.tmps[d]? with
              | none => rw [h'] at hv; simp [undef] at hv
              | some u => rw [h'] at hv; simp at hv; rw [hv]
            simp [yielded, e1, ed, e2]
          simp only [hy]
          cases want <;> cases b' <;> simp_all
        · rename_i eb
          have hv := h.ev _ _ eb
          simp only [VRel] at hv
          have hy : yielded ops a.tmps j = none := by
            have e1 : ops[j]? = some q := by simpa using eq
            obtain ⟨A, hA, _⟩ := hv
            simp only [Act.eval, Array.getD_eq_getD_getElem?] at hA
            cases h' : a.tmps[d]? with
            | none => simp [yielded, e1, ed, h']
            | some u => rw [h'] at hA; simp at hA; simp [yielded, e1, ed, h', hA]
          simp only [hy]
          cases hw
          cases want <;> rfl
        · cases hw
      · cases hw
    · cases hw

theorem astore_next {t : TypeId} {x v : AV} (h : astore P S t x v = some S') : S.next ≤ S'.next := by
  unfold astore at h
  repeat' split at h
  all_goals first | (cases h; done) | (obtain rfl := Option.some.inj h; exact Nat.le_refl _)
theorem amapSet_next {t : TypeId} {m k v : AV} (h : amapSet P S t m k v = some S') : S.next ≤ S'.next := by
  unfold amapSet at h
  repeat' split at h
  all_goals first | (cases h; done) | (obtain rfl := Option.some.inj h; exact Nat.le_refl _)
theorem adelete_next {t : TypeId} {m k : AV} (h : adelete P S t m k = some S') : S.next ≤ S'.next := by
  unfold adelete at h
  repeat' split at h
  all_goals first | (cases h; done) | (obtain rfl := Option.some.inj h; exact Nat.le_refl _)
theorem acopy_next {ts : Array TypeId} {d x v : AV} (h : acopy P S ts d x = some (v, S')) : S.next ≤ S'.next := by
  unfold acopy at h
  repeat' split at h
  all_goals first | (cases h; done) | (simp only [Option.some.injEq, Prod.mk.injEq] at h; obtain ⟨_, rfl⟩ := h; exact Nat.le_refl _)
theorem aclear_next {ts : Array TypeId} {x v : AV} (h : aclear P S ts x = some (v, S')) : S.next ≤ S'.next := by
  unfold aclear at h
  repeat' split at h
  all_goals first | (cases h; done) | (simp only [Option.some.injEq, Prod.mk.injEq] at h; obtain ⟨_, rfl⟩ := h; exact Nat.le_refl _)
theorem aremark_next {s d : TypeId} {x v : AV} (h : aremark P S s d x = some (v, S')) : S.next ≤ S'.next := by
  unfold aremark at h
  repeat' split at h
  all_goals first | (cases h; done) | (simp only [Option.some.injEq, Prod.mk.injEq] at h; obtain ⟨_, rfl⟩ := h; exact Nat.le_refl _)
theorem aappend_next {ts : Array TypeId} {s x v : AV} (h : aappend P S ts s x = some (v, S')) : S.next ≤ S'.next := by
  unfold aappend at h
  repeat' split at h
  all_goals first | (cases h; done) | (simp only [Option.some.injEq, Prod.mk.injEq] at h; obtain ⟨_, rfl⟩ := h; first | exact Nat.le_refl _ | exact Nat.le_succ _)
theorem aunsafeString_next {ts : Array TypeId} {x n v : AV} (h : aunsafeString P S ts x n = some (v, S')) : S.next ≤ S'.next := by
  unfold aunsafeString at h
  repeat' split at h
  all_goals first | (cases h; done) | (simp only [Option.some.injEq, Prod.mk.injEq] at h; obtain ⟨_, rfl⟩ := h; exact Nat.le_refl _)
theorem aE_next {ev : Operand → Option AV} {op : Op} {v : AV} (h : aE P ev op S = some (v, S')) : S.next ≤ S'.next := by
  unfold aE at h
  repeat' split at h
  all_goals first
    | (cases h; done)
    | exact aremark_next h
    | exact aappend_next h
    | exact aappendZ_next h
    | exact aunsafeString_next h
    | exact acopy_next h
    | exact aclear_next h
    | (simp only [Option.some.injEq, Prod.mk.injEq] at h; obtain ⟨_, rfl⟩ := h; first | exact astore_next (by assumption) | exact amapSet_next (by assumption) | exact adelete_next (by assumption))

/-- a plain operation, run -/
theorem aplain_ok [RhoOk P ρ] (h : HRel μ ρ S.heap w) (hr : FRel μ ρ fr a) {o : Oper} {v : AV} (hl : aplain P o fr S = some (v, S')) :
    S.next ≤ S'.next ∧ (Fresh μ S.next S'.next → EffOk P ρ μ (execOp a.eval o) S w v S') := by
  have he := hr.ev
  unfold aplain at hl
  split at hl
  · split at hl
    · rename_i u eu
      simp only [Option.some.injEq, Prod.mk.injEq] at hl
      obtain ⟨rfl, rfl⟩ := hl
      obtain ⟨V, hV, r⟩ := aP_ok he eu w
      exact ⟨Nat.le_refl _, fun _ => ⟨V, w, μ, .inl hV, Stepped.id h r⟩⟩
    · cases hl
  · split at hl
    · rename_i u eu
      simp only [Option.some.injEq, Prod.mk.injEq] at hl
      obtain ⟨rfl, rfl⟩ := hl
      obtain ⟨V, hV, r⟩ := aR_ok h he eu
      exact ⟨Nat.le_refl _, fun _ => ⟨V, w, μ, .inl hV, Stepped.id h r⟩⟩
    · cases hl
  · split at hl
    · rename_i p ep
      obtain ⟨ob, f⟩ := p
      simp only [Option.some.injEq, Prod.mk.injEq] at hl
      obtain ⟨rfl, rfl⟩ := hl
      refine ⟨Nat.le_succ _, fun hf => ?_⟩
      obtain ⟨O, V, w', slack, hrun, hm, hO, hv⟩ := aA_ok he ep w
      exact ⟨V, w', _, .inl hrun, step_new h hf (h.free (hf _ (Nat.le_refl _) (Nat.lt_succ_self _))) hm.heap hm.os hm.tape hm.output hO (fun μ' hs hid => hv μ' _ hs hid)⟩
    · cases hl
  · exact ⟨aE_next hl, fun hf => aE_ok h he hl hf⟩
  · cases hl
end
end Go.Eng
/- Engine, part 18: calls, rounds, deferred calls; a region in order. -/
namespace Go.Eng
open Go
section
variable {P : Program} {ρ : Rho} {callF : CallF} {codeF : CodeF}

theorem getLoop_of {μ : Mu} {S : T AObj} {w : World} (h : HRel μ ρ S w) {l : Nat} {r : ALoop} (hl : S.get l = some (.loop r)) {k : Blk} (hk : μ l = some k) : ∃ L, w.heap[k.block]? = some (.loop L) ∧ LRel μ ρ r L := by
  obtain ⟨k', hk', L, e, r'⟩ := h.obj l _ hl rfl
  rw [hk] at hk'; cases hk'
  exact ⟨L, e, r'⟩

theorem turn_obj {μ : Mu} {S : St} {w : World} (h : HRel μ ρ S.heap w) {b : Nat} {o o' : AObj} {k : Blk} (hb : S.heap.get b = some o) (hl : o.live = true) (hk : μ b = some k) {O : Obj} (hO : ORel μ ρ k o' (some O)) {v : AV} {V : Value} (hv : VRel μ ρ v V) :
    Stepped P ρ μ S w v ⟨S.heap.set b o', S.next⟩ V (putC w k.block O) μ := by
  have hlt : k.block < w.heap.size := h.lt ⟨b, _, k, hb, hl, hk, rfl⟩
  refine ⟨hv, h.turn hb hl hk (fun B hB => putC_other hB) (by rw [putC_same hlt]; exact hO), Grow.refl _ _ _, ⟨rfl, rfl, rfl, by rw [putC_size]; exact Nat.le_refl _, ?_, ?_⟩⟩
  · intro B hB ht
    exact putC_other (fun e' => ht ⟨b, _, k, hb, hl, hk, e'.symm⟩)
  · rintro B ⟨x, ox, kx, hx, hlx, hkx, rfl⟩
    left
    rw [T.get_set] at hx
    split at hx
    · rename_i e'; subst e'; rw [hk] at hkx; cases hkx; exact ⟨x, _, _, hb, hl, hk, rfl⟩
    · exact ⟨x, ox, kx, hx, hlx, hkx, rfl⟩

theorem Ext.mid {μ μ' : Mu} {S S' : T AObj} {w w' : World} (h : Ext μ S w μ' S' w') : Ext μ S w μ' S' w' := h

theorem putArgs_ok {μ : Mu} {n : Nat} : ∀ {ps : List Tmp} {vs : List AV} {Vs : List Value} {t t' : ET} {A : Array Value}, putArgs ps n vs t = some t' → VRels μ ρ vs Vs → TRel μ ρ t n A →
    ps.length = Vs.length ∧ TRel μ ρ t' n ((ps.zip Vs).foldl (fun tmps (p : Tmp × Value) => tmps.setIfInBounds p.1 p.2) A)
  | [], vs, Vs, t, t', A, h, hv, ht => by
    cases vs with
    | nil =>
      have : t' = t := by simpa [putArgs] using h.symm
      subst this
      rw [hv.nil_inv]; exact ⟨rfl, ht⟩
    | cons v vs => simp [putArgs] at h
  | p :: ps, vs, Vs, t, t', A, h, hv, ht => by
    cases vs with
    | nil => simp [putArgs] at h
    | cons v vs =>
      obtain ⟨V, Us, rfl, h1, h2⟩ := hv.cons_inv
      have h' : (match Nat.ble (Nat.succ p) (lim n) with | true => putArgs ps n vs (t.set p v) | false => none) = some t' := h
      split at h'
      · rename_i hb
        have hb := lim_ok hb
        have ht' : TRel μ ρ (t.set p v) n (A.setIfInBounds p V) := TRel.set (fr := ⟨t, n, []⟩) (a := ⟨A, []⟩) ht hb h1
        obtain ⟨e, r⟩ := putArgs_ok h' h2 ht'
        exact ⟨by simp [e], by simpa using r⟩
      · cases h'

theorem Stepped.trans {μ μ' μ'' : Mu} {S S' S'' : St} {w w' w'' : World} {v v' : AV} {V V' : Value} (h : Stepped P ρ μ S w v S' V w' μ') (g : Stepped P ρ μ' S' w' v' S'' V' w'' μ'') (h1 : S.next ≤ S'.next) (h2 : S'.next ≤ S''.next) : Stepped P ρ μ S w v' S'' V' w'' μ'' :=
  ⟨g.val, g.heap, h.grow.trans g.grow h1 h2, h.ext.trans g.ext⟩
theorem Left.then {μ μ' μ'' : Mu} {S S' S'' : St} {w w' w'' : World} {fr' fr'' : Fr} {a' a'' : Act} (h : Left P ρ μ S w fr' S' a' w' μ') (g : Left P ρ μ' S' w' fr'' S'' a'' w'' μ'') (h1 : S.next ≤ S'.next) (h2 : S'.next ≤ S''.next) : Left P ρ μ S w fr'' S'' a'' w'' μ'' :=
  ⟨g.fr, g.heap, h.grow.trans g.grow h1 h2, h.ext.trans g.ext⟩

/-- ONE ROUND -/
theorem roundF_ok [RhoOk P ρ] (hD : CodeFOk P ρ codeF) {l : Nat} {vs : List AV} {S S' : St} {v : AV} (hl : roundF codeF l vs S = some (v, S')) : S.next ≤ S'.next ∧
    ∀ μ w (A : Array Value) F, HRel μ ρ S.heap w → Fresh μ S.next S'.next → VRels μ ρ vs A.toList → (F = Fence.wide ∨ ∃ j, F = Fence.wide.inRound j) → ∀ k, μ l = some k →
      ∃ f tmps assign body, (Instr.yield k.block A).run P w = .ok (.round k.block f tmps assign body) w ∧ RoundIn F 0 P k.block f tmps assign body w (CallPost P ρ μ S w v S') := by
  unfold roundF at hl
  split at hl
  · rename_i r hr
    split at hl
    · rename_i t est et
      split at hl
      · rename_i fr1 S1 e1
        split at hl
        · rename_i r1 hr1
          split at hl
          · rename_i est1
            split at hl
            · rename_i x fr2 S3 e3
              split at hl
              · rename_i r3 hr3
                simp only [Option.some.injEq, Prod.mk.injEq] at hl
                obtain ⟨rfl, rfl⟩ := hl
                obtain ⟨n1, c1⟩ := hD _ _ _ _ _ _ _ e1
                obtain ⟨n2, c2⟩ := hD _ _ _ _ _ _ _ e3
                have n2 : S1.next ≤ S3.next := n2
                refine ⟨Nat.le_trans n1 n2, ?_⟩
                intro μ w A F hh hf hv hF k hk
                have hf : Fresh μ S.next S3.next := hf
                obtain ⟨L, hL, hLR⟩ := getLoop_of hh hr hk
                obtain ⟨q1, q2, q3, q4, q5, q6, kd, q7, q8⟩ := hLR
                obtain ⟨plen, pt⟩ := putArgs_ok et hv q3
                have hy := run_yield (P := P) (args := A) hL (by rw [q4]; simpa using plen.symm)
                refine ⟨_, _, _, _, hy, ?_⟩
                have hFr : F.inRound k.block = Fence.wide.inRound k.block := by rcases hF with rfl | ⟨j, rfl⟩ <;> rfl
                have hFf : F.fn L.fn := by rcases hF with rfl | ⟨j, rfl⟩ <;> trivial
                refine roundIn_of_wpIn hFf ?_
                rw [hFr]
                have hpt : TRel μ ρ t r.ntm ((L.params.zip A).foldl (fun tmps (x : Tmp × Value) => tmps.setIfInBounds x.1 x.2) L.tmps) := by
                  rw [q4, ← Array.foldl_toList, Array.toList_zip]; exact pt
                have hfr0 : FRel μ ρ ⟨t, r.ntm, []⟩ ⟨(L.params.zip A).foldl (fun tmps (x : Tmp × Value) => tmps.setIfInBounds x.1 x.2) L.tmps, []⟩ := ⟨hpt, rfl⟩
                have w1 := c1 μ w ⟨(L.params.zip A).foldl (fun tmps (x : Tmp × Value) => tmps.setIfInBounds x.1 x.2) L.tmps, []⟩ (Fence.wide.inRound k.block) ⟨k, hk, rfl⟩ hh (hf.left n2) hfr0
                rw [q5]
                refine wpIn_mono w1 ?_
                rintro e a1 w1' ⟨hx, μ1, left1⟩
                cases hx
                have sub1 := left1.grow.sub (hf.left n2)
                have hk1 := sub1 _ _ hk
                obtain ⟨L1, hL1, hLR1⟩ := getLoop_of left1.heap hr1 hk1
                have hst : L1.state = .ready := by rw [hLR1.1]; exact est1
                refine ⟨_, run_beginRound hL1 hst, ?_⟩
                obtain ⟨y1, y2, y3, y4, y5, y6, y7⟩ := hLR1
                have turn1 := turn_obj (P := P) (S := S1) left1.heap hr1 rfl hk1 (o' := .loop { r1 with state := .busy }) (O := .loop { L1 with state := .busy }) ⟨_, rfl, rfl, y2, y3, y4, y5, y6, y7⟩ (v := undefV) (V := undef) undef_ok
                have hf1 : Fresh μ1 S1.next S3.next := hf.right n1 left1.grow
                have w2 := c2 μ1 _ a1 (Fence.wide.inRound k.block) ⟨k, hk1, rfl⟩ turn1.heap hf1 left1.fr
                rw [q6]
                refine wpIn_mono w2 ?_
                rintro e a2 w2' ⟨hx, μ2, left2⟩
                have n2' : (⟨S1.heap.set l (.loop { r1 with state := .busy }), S1.next⟩ : St).next ≤ S3.next := n2
                have sub2 := left2.grow.sub hf1
                have hk2 := sub2 _ _ hk1
                obtain ⟨L3, hL3, hLR3⟩ := getLoop_of left2.heap hr3 hk2
                obtain ⟨z1, z2, z3, z4, z5, z6, z7⟩ := hLR3
                have fin : ∀ (jump : Option Code), jump = jumpOf x → (isNormal x = jump.isNone) → ∃ v' w'', (Instr.endRound k.block jump).run P w2' = .ok v' w'' ∧ CallPost P ρ μ S w (.bool (isNormal x)) ⟨S3.heap.set l (.loop { r3 with state := (match isNormal x with | true => .ready | false => .done), pending := jumpOf x }), S3.next⟩ (.returned v') w'' := by
                  intro jump hj hn
                  have hend := run_endRound (P := P) jump hL3
                  have turn3 := turn_obj (P := P) (S := S3) left2.heap hr3 rfl hk2 (o' := .loop { r3 with state := (match isNormal x with | true => .ready | false => .done), pending := jumpOf x }) (O := .loop { L3 with state := if jump.isNone then .ready else .done, pending := jump })
                    ⟨_, rfl, by rw [← hn]; cases isNormal x <;> rfl, hj, z3, z4, z5, z6, z7⟩ (v := .bool (isNormal x)) (V := .bool jump.isNone) (by simp only [VRel]; rw [hn])
                  refine ⟨_, _, hend, _, μ2, rfl, ?_⟩
                  have g1 : Grow μ S.next S1.next μ1 := left1.grow
                  have g2 : Grow μ1 S1.next S3.next μ2 := left2.grow
                  exact ⟨turn3.val, turn3.heap, g1.trans g2 n1 n2, ((left1.ext.trans turn1.ext).trans left2.ext).trans turn3.ext⟩
                cases x with
                | normal => cases hx; exact fin none rfl rfl
                | ret => cases hx; exact fin (some .ret) rfl rfl
                | exit id => cases hx; exact fin (some (.exit id)) rfl rfl
              · cases hl
            · cases hl
          · cases hl
        · cases hl
      · cases hl
    · cases hl
  · cases hl

theorem sem_of {F : Fence} (o : Oper) (ρ' : Operand → Value) (h : ∀ c, o.op ≠ .defer c) : o.semAt F.round ρ' = execOp ρ' o := Oper.semAt_eq _ _ _ h

theorem plain_notDefer {S S' : St} {fr : Fr} {o : Oper} {v : AV} (h : aplain P o fr S = some (v, S')) : ∀ c, o.op ≠ .defer c := by
  intro c e
  unfold aplain at h
  rw [e] at h
  simp only [ocls] at h
  cases h

/-- ONE OPERATION -/
theorem stepF_ok [RhoOk P ρ] (hC : CallXOk P ρ callF) (hD : CodeFOk P ρ codeF) {ro : Option Nat} {o : Oper} {fr fr' : Fr} {S S' : St} {v : AV} (hl : stepF P callF codeF ro o fr S = some (v, fr', S')) : S.next ≤ S'.next ∧
    ∀ μ w a F, FOf μ ro F → HRel μ ρ S.heap w → Fresh μ S.next S'.next → FRel μ ρ fr a → ∀ (next : Act → World → Prop) (Q : Exit → Act → World → Prop),
      (∀ V a1 w' μ', VRel μ' ρ v V → Left P ρ μ S w fr' S' a1 w' μ' → next (a1.put o.dst V) w') → o.wpIn F 0 P a w next Q := by
  have plain : ∀ {v S'}, (match aplain P o fr S with | some p => some (p.1, fr, p.2) | none => none) = some (v, fr', S') → S.next ≤ S'.next ∧
    ∀ μ w a F, FOf μ ro F → HRel μ ρ S.heap w → Fresh μ S.next S'.next → FRel μ ρ fr a → ∀ (next : Act → World → Prop) (Q : Exit → Act → World → Prop),
      (∀ V a1 w' μ', VRel μ' ρ v V → Left P ρ μ S w fr' S' a1 w' μ' → next (a1.put o.dst V) w') → o.wpIn F 0 P a w next Q := by
    intro v S' hl
    split at hl
    · rename_i p ep
      obtain ⟨u, S1⟩ := p
      simp only [Option.some.injEq, Prod.mk.injEq] at hl
      obtain ⟨rfl, rfl, rfl⟩ := hl
      have hnext : S.next ≤ S1.next := by
        unfold aplain at ep
        repeat' split at ep
        all_goals first
          | (cases ep; done)
          | exact aE_next ep
          | (simp only [Option.some.injEq, Prod.mk.injEq] at ep; obtain ⟨_, rfl⟩ := ep; first | exact Nat.le_refl _ | exact Nat.le_succ _)
      refine ⟨hnext, ?_⟩
      intro μ w a F hF hh hf hr next Q hn
      obtain ⟨_, hE⟩ := aplain_ok hh hr ep
      obtain ⟨V, w', μ', hrun, st⟩ := hE hf
      have left : Left P ρ μ S w fr S1 a w' μ' := ⟨hr.mono (st.grow.sub hf), st.heap, st.grow, st.ext⟩
      refine ⟨fun f _ => hF.fn f, ?_⟩
      rw [sem_of _ _ (plain_notDefer ep)]
      rcases hrun with hrun | ⟨hrun, rfl⟩
      · rw [hrun]; exact hn _ _ _ _ st.val left
      · rw [hrun]; exact hn _ _ _ _ st.val left
    · cases hl
  unfold stepF at hl
  split at hl
  · rename_i g args ts eop
    split at hl
    · rename_i f A B vs eg eargs
      split at hl
      · rename_i p ep
        obtain ⟨u, S1⟩ := p
        simp only [Option.some.injEq, Prod.mk.injEq] at hl
        obtain ⟨rfl, rfl, rfl⟩ := hl
        obtain ⟨n1, hcall⟩ := hC _ _ _ _ _ ep
        refine ⟨n1, ?_⟩
        intro μ w a F hF hh hf hr next Q hn
        have hg := hr.ev _ _ eg
        simp only [VRel] at hg
        obtain ⟨f', A', B', eg', hff, hA, hB⟩ := hg
        cases hff
        have hargs := evs_ok hr.ev eargs
        have hall : VRels μ ρ (appL A (appL vs B)) ((A' ++ args.map a.eval) ++ B').toList := by
          rw [appL_eq, appL_eq]
          simp only [Array.toList_append, Array.toList_map, List.append_assoc]
          exact hA.append (hargs.append hB)
        refine ⟨fun f _ => hF.fn f, ?_⟩
        rw [sem_of _ _ (by rw [eop]; simp)]
        rcases hcall μ w _ hh hf hall with ⟨hcf, hc⟩ | ⟨V, w', μ', hcf, st⟩
        · have hrun : (execOp a.eval o).run P w = .ok (.enter f ((A' ++ args.map a.eval) ++ B')) w := by
            simp only [execOp, eop, resolve, Deferred.ofValue, Sem.run_bind, eg', Sem.run_pure, Result.andThen_ok, invoke, hcf]
          rw [hrun]
          refine ⟨hF.depth, ?_⟩
          have hc' : CallsIn F 0 P f ((A' ++ args.map a.eval) ++ B') w (CallPost P ρ μ S w u S1) := by
            cases ro with
            | none => cases hF; exact hc
            | some l => obtain ⟨k, _, rfl⟩ := hF; exact hc
          refine hc'.mono ?_
          rintro e w' ⟨V, μ', rfl, st⟩
          exact hn _ _ _ _ st.val ⟨hr.mono (st.grow.sub hf), st.heap, st.grow, st.ext⟩
        · have hrun : (execOp a.eval o).run P w = .ok (.value V) w' := by
            simp only [execOp, eop, resolve, Deferred.ofValue, Sem.run_bind, eg', Sem.run_pure, Result.andThen_ok, invoke, hcf]
          rw [hrun]
          exact hn _ _ _ _ st.val ⟨hr.mono (st.grow.sub hf), st.heap, st.grow, st.ext⟩
      · cases hl
    · rename_i l vs eg eargs
      split at hl
      · rename_i p ep
        obtain ⟨u, S1⟩ := p
        simp only [Option.some.injEq, Prod.mk.injEq] at hl
        obtain ⟨rfl, rfl, rfl⟩ := hl
        obtain ⟨n1, hround⟩ := roundF_ok hD ep
        refine ⟨n1, ?_⟩
        intro μ w a F hF hh hf hr next Q hn
        have hg := hr.ev _ _ eg
        simp only [VRel] at hg
        obtain ⟨f', A', B', eg', ⟨k, hk, rfl⟩, hA, hB⟩ := hg
        have hA0 : A' = #[] := by have := hA.nil_inv; simpa using this
        subst hA0
        have hargs := evs_ok hr.ev eargs
        obtain ⟨f, tmps, assign, body, hy, hR⟩ := hround μ w (args.map a.eval) F hh hf (by simpa using hargs) (by
          cases ro with
          | none => exact .inl hF
          | some l => obtain ⟨k, _, rfl⟩ := hF; exact .inr ⟨_, rfl⟩) k hk
        refine ⟨fun f _ => hF.fn f, ?_⟩
        rw [sem_of _ _ (by rw [eop]; simp)]
        have hrun : (execOp a.eval o).run P w = .ok (.round k.block f tmps assign body) w := by
          simp only [execOp, eop, resolve, Deferred.ofValue, Sem.run_bind, eg', Sem.run_pure, Result.andThen_ok, invoke]
          have : #[] ++ args.map a.eval = args.map a.eval := by simp
          rw [this]; exact hy
        rw [hrun]
        refine ⟨hF.depth, hR.mono ?_⟩
        rintro e w' ⟨V, μ', rfl, st⟩
        exact hn _ _ _ _ st.val ⟨hr.mono (st.grow.sub hf), st.heap, st.grow, st.ext⟩
      · cases hl
    · cases hl
  · rename_i g args ts eop
    split at hl
    · rename_i f A B vs eg eargs
      simp only [Option.some.injEq, Prod.mk.injEq] at hl
      obtain ⟨rfl, rfl, rfl⟩ := hl
      refine ⟨Nat.le_refl _, ?_⟩
      intro μ w a F hF hh hf hr next Q hn
      have hg := hr.ev _ _ eg
      simp only [VRel] at hg
      obtain ⟨f', A', B', eg', hff, hA, hB⟩ := hg
      cases hff
      have hargs := evs_ok hr.ev eargs
      cases hF
      refine ⟨fun f _ => trivial, ?_⟩
      have hrun : (o.semAt Fence.wide.round a.eval).run P w = .ok (.defer { target := .fn (.func f) B', args := A' ++ args.map a.eval }) w := by
        show (Oper.semAt none a.eval o).run P w = _
        rw [Oper.semAt_none]
        simp only [execOp, eop, resolve, Deferred.ofValue, Sem.run_bind, eg', Sem.run_pure, Result.andThen_ok]
      rw [hrun]
      refine hn undef { a with defers := _ :: a.defers } w μ undef_ok ⟨⟨hr.tmps, ?_⟩, hh, Grow.refl _ _ _, Ext.refl _ _ _⟩
      refine ⟨_, B', _, rfl, rfl, ?_, hr.defers⟩
      rw [appL_eq, appL_eq]
      simp only [Array.toList_append, Array.toList_map, List.append_assoc]
      exact hA.append (hargs.append hB)
    · cases hl
  · exact plain hl

/-- A REGION IN ORDER -/
theorem opsF_ok [RhoOk P ρ] (hC : CallXOk P ρ callF) (hD : CodeFOk P ρ codeF) {ro : Option Nat} {ops : Array Oper} : ∀ (l : List Oper) (i : Nat) (fr fr' : Fr) (S S' : St), ops.toList.drop i = l → opsF P callF codeF ro ops.toList l fr S = some (fr', S') → S.next ≤ S'.next ∧
    ∀ μ w a F, FOf μ ro F → HRel μ ρ S.heap w → Fresh μ S.next S'.next → FRel μ ρ fr a → ∀ (Q : Exit → Act → World → Prop), (∀ a' w' μ', Left P ρ μ S w fr' S' a' w' μ' → Q .normal a' w') →
      wpOpsIn F 0 P ops Q (List.range' i (ops.size - i)) a w
  | [], i, fr, fr', S, S', hd, hl => by
    have : (fr', S') = (fr, S) := by simpa [opsF] using hl.symm
    obtain ⟨rfl, rfl⟩ := Prod.mk.inj this
    refine ⟨Nat.le_refl _, ?_⟩
    intro μ w a F hF hh hf hr Q hQ
    have h0 : ops.size - i = 0 := by
      have := congrArg List.length hd
      simpa using this
    rw [h0]
    exact hQ _ _ _ ⟨hr, hh, Grow.refl _ _ _, Ext.refl _ _ _⟩
  | o :: l, i, fr, fr', S, S', hd, hl => by
    have hi : i < ops.size := by
      have := congrArg List.length hd
      simp at this; omega
    have ho : ops[i]? = some o := by
      have : ops.toList[i]? = some o := by
        have h1 : (ops.toList.drop i)[0]? = some o := by rw [hd]; rfl
        simpa using h1
      simpa using this
    have hd' : ops.toList.drop (i + 1) = l := by
      have := congrArg List.tail hd
      simpa [List.tail_drop] using this
    have hrange : List.range' i (ops.size - i) = i :: List.range' (i + 1) (ops.size - (i + 1)) := by
      rw [show ops.size - i = (ops.size - (i + 1)) + 1 from by omega, List.range'_succ]
    have hl' : (match awanted ops.toList o fr with
      | some true => (match stepF P callF codeF ro o fr S with
        | some (v, fr', S') => (match aput fr' o.dst v with | some fr'' => opsF P callF codeF ro ops.toList l fr'' S' | none => none)
        | none => none)
      | some false => (match aput fr o.dst undefV with | some fr' => opsF P callF codeF ro ops.toList l fr' S | none => none)
      | none => none) = some (fr', S') := hl
    split at hl'
    · rename_i ew
      split at hl'
      · rename_i v fr1 S1 es
        split at hl'
        · rename_i fr2 ep
          obtain ⟨n1, h1⟩ := stepF_ok hC hD es
          obtain ⟨n2, h2⟩ := opsF_ok hC hD l (i + 1) _ _ _ _ hd' hl'
          refine ⟨Nat.le_trans n1 n2, ?_⟩
          intro μ w a F hF hh hf hr Q hQ
          rw [hrange]
          simp only [wpOpsIn, ho]
          rw [awanted_ok hr ew, if_pos rfl]
          refine h1 μ w a F hF hh (hf.left n2) hr _ _ ?_
          intro V a1 w' μ' hv left
          have sub := left.grow.sub (hf.left n2)
          refine h2 μ' w' _ F (hF.mono sub) left.heap (hf.right n1 left.grow) (aput_ok left.fr ep hv) Q ?_
          intro a' w'' μ'' left'
          exact hQ _ _ _ (left.then (fr' := fr1) left' n1 n2)
        · cases hl'
      · cases hl'
    · rename_i ew
      split at hl'
      · rename_i fr1 ep
        obtain ⟨n2, h2⟩ := opsF_ok hC hD l (i + 1) _ _ _ _ hd' hl'
        refine ⟨n2, ?_⟩
        intro μ w a F hF hh hf hr Q hQ
        rw [hrange]
        simp only [wpOpsIn, ho]
        rw [awanted_ok hr ew]
        simp only [Bool.false_eq_true, if_false]
        exact ⟨fun f _ => hF.fn f, h2 μ w _ F hF hh hf (aput_ok hr ep undef_ok) Q hQ⟩
      · cases hl'
    · cases hl'
end
end Go.Eng
/- Engine, part 18a: a call whose first argument is a slice of which the capacity is not known, reckoned twice: there is no spare place, and there is one at least; both must come to the same. -/
namespace Go.Eng
open Go

def slcId : AV → Option Nat
  | .slc (some p) _ _ _ => some p.1
  | _ => none

noncomputable def locH (S : T AObj) (rest : List AV) : T AObj :=
  List.rec (motive := fun _ => T AObj) .leaf (fun v _ ih => match slcId v with
    | some b => (match S.get b with | some (.row c e z) => ih.set b (.row c e z) | _ => ih)
    | none => ih) rest
noncomputable def killL (H : T AObj) (rest : List AV) : T AObj :=
  List.rec (motive := fun _ => T AObj) H (fun v _ ih => match slcId v with | some b => ih.set b .dead | none => ih) rest

noncomputable def viewOf (v : AV) (S : T AObj) : Option (Nat × TypeId × Nat × List AV) :=
  match v with
  | .slc (some (b, o)) l c true => (match S.get b with
    | some (.row cells e (z + 1)) => (match Nat.beq (Nat.add o (Nat.mul c (Nat.succ z))) (lenL cells) && Nat.ble l c with
      | true => some (l, e, Nat.succ z, takeL (dropL cells o) (Nat.mul l (Nat.succ z)))
      | false => none)
    | _ => none)
  | _ => none

noncomputable def twoF (callF : CallF) : CallF := fun f args S =>
  match args with
  | .slc (some (b, o)) n c true :: rest => (match S.heap.get b with
    | some (.row cells e (z + 1)) => (match Nat.beq (Nat.add o (Nat.mul c (Nat.succ z))) (lenL cells) with
      | true => (match callF f (.slc (some (S.next, o)) n c false :: rest) ⟨(locH (S.heap.set b .dead) rest).set S.next (.row cells e (Nat.succ z)), Nat.succ S.next⟩,
          callF f (.slc (some (S.next, o)) n (Nat.succ c) true :: rest) ⟨(locH (S.heap.set b .dead) rest).set S.next (.row (appL cells (repL [.sym .any] (Nat.succ z))) e (Nat.succ z)), Nat.succ S.next⟩ with
        | some (v1, S1), some (v2, S2) => (match viewOf v1 S1.heap, viewOf v2 S2.heap with
          | some (l1, e1, z1, cs1), some (l2, e2, z2, cs2) => (match Nat.beq l1 l2 && Nat.beq e1 e2 && Nat.beq z1 z2 && beqAVs cs1 cs2 with
            | true => some (.slc (some (Nat.max S1.next S2.next, 0)) l1 l1 true, ⟨(killL (S.heap.set b .dead) rest).set (Nat.max S1.next S2.next) (.row cs1 e1 z1), Nat.succ (Nat.max S1.next S2.next)⟩)
            | false => none)
          | _, _ => none)
        | _, _ => none)
      | false => none)
    | _ => none)
  | _ => none

def idsOf (rest : List AV) (x : Nat) : Prop := ∃ v ∈ rest, slcId v = some x

theorem locH_get (S : T AObj) : ∀ (rest : List AV) (x : Nat) (ox : AObj), (locH S rest).get x = some ox → S.get x = some ox ∧ idsOf rest x
  | [], x, ox, h => by
    have : (T.leaf : T AObj).get x = some ox := h
    rw [T.get_leaf] at this; cases this
  | v :: rest, x, ox, h => by
    have h' : (match slcId v with
      | some b => (match S.get b with | some (.row c e z) => (locH S rest).set b (.row c e z) | _ => locH S rest)
      | none => locH S rest).get x = some ox := h
    have old : (locH S rest).get x = some ox → S.get x = some ox ∧ idsOf (v :: rest) x := fun h => by
      obtain ⟨h1, u, hu, h2⟩ := locH_get S rest x ox h
      exact ⟨h1, u, by simp [hu], h2⟩
    split at h'
    · rename_i b eb
      split at h'
      · rename_i c e z er
        rw [T.get_set] at h'
        split at h'
        · rename_i ex; subst ex; cases h'; exact ⟨er, v, by simp, eb⟩
        · exact old h'
      · exact old h'
    · exact old h'
theorem killL_get (H : T AObj) : ∀ (rest : List AV) (x : Nat) (ox : AObj), (killL H rest).get x = some ox → ox.live = true → H.get x = some ox ∧ ¬ idsOf rest x
  | [], x, ox, h, _ => ⟨h, by rintro ⟨v, hv, _⟩; simp at hv⟩
  | v :: rest, x, ox, h, hl => by
    have h' : (match slcId v with | some b => (killL H rest).set b .dead | none => killL H rest).get x = some ox := h
    split at h'
    · rename_i b eb
      rw [T.get_set] at h'
      split at h'
      · cases h'; simp [AObj.live] at hl
      · rename_i hx
        obtain ⟨h1, h2⟩ := killL_get H rest x ox h' hl
        refine ⟨h1, ?_⟩
        rintro ⟨u, hu, hs⟩
        rcases List.mem_cons.1 hu with rfl | hu
        · rw [eb] at hs; cases hs; exact hx rfl
        · exact h2 ⟨u, hu, hs⟩
    · rename_i en
      obtain ⟨h1, h2⟩ := killL_get H rest x ox h' hl
      refine ⟨h1, ?_⟩
      rintro ⟨u, hu, hs⟩
      rcases List.mem_cons.1 hu with rfl | hu
      · rw [en] at hs; cases hs
      · exact h2 ⟨u, hu, hs⟩

section
variable {P : Program} {ρ : Rho}

theorem two_fin {μ μL μ1 : Mu} {S S1 : St} {w w' : World} {b nx : Nat} {cells : List AV} {e : TypeId} {z : Nat} {k kL : Blk} {rest : List AV} {v1 : AV} {V : Value} {loc : List AV} {l1 : Nat} {e1 : TypeId} {z1 : Nat} {cs1 : List AV}
    (hh : HRel μ ρ S.heap w) (hb : S.heap.get b = some (.row cells e z)) (hk : μ b = some k) (hf : Fresh μ S.next (nx + 1))
    (hL : ∀ x, x ≠ S.next → μL x = μ x) (hLs : μL S.next = some kL) (hkL : kL.block = k.block)
    (hn1 : S.next + 1 ≤ S1.next) (hnx : S1.next ≤ nx)
    (st : Stepped P ρ μL ⟨(locH (S.heap.set b .dead) rest).set S.next (.row loc e z), S.next + 1⟩ w v1 S1 V w' μ1)
    (hv : viewOf v1 S1.heap = some (l1, e1, z1, cs1)) :
    ∃ μ2, Stepped P ρ μ S w (.slc (some (nx, 0)) l1 l1 true) ⟨(killL (S.heap.set b .dead) rest).set nx (.row cs1 e1 z1), nx + 1⟩ V w' μ2 := by
  unfold viewOf at hv
  split at hv
  · rename_i b1 o1 l c
    split at hv
    · rename_i cells1 e1' z1' hb1
      split at hv
      · rename_i hcond
        simp only [Option.some.injEq, Prod.mk.injEq] at hv
        obtain ⟨rfl, rfl, rfl, rfl⟩ := hv
        simp only [Bool.and_eq_true] at hcond
        have hlen : o1 + c * (z1' + 1) = cells1.length := by have := Nat.eq_of_beq_eq_true hcond.1; rw [lenL_eq] at this; exact this
        have hlc : l ≤ c := Nat.le_of_ble_eq_true hcond.2
        have hval := st.val
        simp only [VRel] at hval
        obtain ⟨A, C, rfl, k1, hk1, rfl, rfl⟩ := hval
        obtain ⟨k1', hk1', pre, mid, post, fz, hO, hpre, hm, hpost, hfr, _, hmk⟩ := st.heap.obj b1 _ hb1 rfl
        rw [hk1] at hk1'; cases hk1'
        have hml : mid.length = cells1.length := hm.length
        have hmul : l * (z1' + 1) ≤ c * (z1' + 1) := Nat.mul_le_mul_right _ hlc
        obtain ⟨kN, hkN⟩ : ∃ kN : Blk, kN = ⟨k1.block, k1.base + o1, c - l + k1.slack⟩ := ⟨_, rfl⟩
        -- what the evaluation tracks is tracked
        have trL : ∀ B, tracked ((locH (S.heap.set b .dead) rest).set S.next (.row loc e z)) μL B → B = k.block ∨ ∃ x ox kx, idsOf rest x ∧ S.heap.get x = some ox ∧ ox.live = true ∧ μ x = some kx ∧ kx.block = B := by
          rintro B ⟨x, ox, kx, hx, hlx, hkx, rfl⟩
          rw [T.get_set] at hx
          split at hx
          · rename_i ex; subst ex; rw [hLs] at hkx; cases hkx; exact .inl hkL
          · rename_i ex
            obtain ⟨h1, h2⟩ := locH_get _ _ _ _ hx
            rw [T.get_set] at h1
            split at h1
            · cases h1; simp [AObj.live] at hlx
            rw [hL x ex] at hkx
            exact .inr ⟨x, ox, kx, h2, h1, hlx, hkx, rfl⟩
        have trS : ∀ B, tracked ((locH (S.heap.set b .dead) rest).set S.next (.row loc e z)) μL B → tracked S.heap μ B := by
          intro B hB
          rcases trL B hB with rfl | ⟨x, ox, kx, _, h1, h2, h3, h4⟩
          · exact ⟨b, _, k, hb, rfl, hk, rfl⟩
          · exact ⟨x, ox, kx, h1, h2, h3, h4⟩
        have hblk : tracked S1.heap μ1 k1.block := ⟨b1, _, k1, hb1, rfl, hk1, rfl⟩
        have hout : ∀ x, ¬ (S.next ≤ x ∧ x < nx + 1) → (μ1.put nx kN) x = μ x := by
          intro x hx
          have : x ≠ nx := by omega
          rw [Mu.put_other _ _ this, st.grow x (by simp only []; omega), hL x (by omega)]
        have sub : Sub μ (μ1.put nx kN) := by
          intro x kx hx
          by_cases hr : S.next ≤ x ∧ x < nx + 1
          · rw [hf x hr.1 hr.2] at hx; cases hx
          · rw [hout x hr]; exact hx
        have hnx1 : μ1 nx = none := by
          rw [st.grow nx (by simp only []; omega), hL nx (by omega)]
          exact hf nx (by omega) (by omega)
        have sub1 : Sub μ1 (μ1.put nx kN) := Mu.sub_put _ hnx1
        -- an older row that lives on
        have keep : ∀ x ox, x ≠ nx → ((killL (S.heap.set b .dead) rest).set nx (.row (takeL (dropL cells1 o1) (l.mul z1'.succ)) e1' z1'.succ)).get x = some ox → ox.live = true → x ≠ b ∧ ¬ idsOf rest x ∧ S.heap.get x = some ox := by
          intro x ox hxn hx hlx
          rw [T.get_set_other _ _ hxn] at hx
          obtain ⟨h1, h2⟩ := killL_get _ _ _ _ hx hlx
          rw [T.get_set] at h1
          split at h1
          · cases h1; simp [AObj.live] at hlx
          · rename_i hxb; exact ⟨hxb, h2, h1⟩
        have apart : ∀ x ox kx, x ≠ b → ¬ idsOf rest x → S.heap.get x = some ox → ox.live = true → μ x = some kx → ¬ tracked ((locH (S.heap.set b .dead) rest).set S.next (.row loc e z)) μL kx.block := by
          intro x ox kx hxb hxi hx hlx hkx ht
          rcases trL _ ht with h | ⟨y, oy, ky, hyi, hy, hly, hky, h⟩
          · exact hxb (hh.inj x b ox _ kx k hx hlx hb rfl hkx hk h)
          · exact hxi ((hh.inj x y ox oy kx ky hx hlx hy hly hkx hky h.symm) ▸ hyi)
        have newB : ∀ x ox kx, x ≠ b → ¬ idsOf rest x → S.heap.get x = some ox → ox.live = true → μ x = some kx → kx.block ≠ k1.block := by
          intro x ox kx hxb hxi hx hlx hkx e'
          rcases st.ext.tr _ hblk with h | h
          · exact apart x ox kx hxb hxi hx hlx hkx (e' ▸ h)
          · have := hh.lt ⟨x, ox, kx, hx, hlx, hkx, rfl⟩
            omega
        have hrow : ORel (μ1.put nx kN) ρ kN (.row (takeL (dropL cells1 o1) (l.mul z1'.succ)) e1' z1'.succ) w'.heap[k1.block]? := by
          refine ⟨pre ++ mid.take o1, (mid.drop o1).take (l * (z1' + 1)), mid.drop (o1 + l * (z1' + 1)) ++ post, fz, ?_, ?_, ?_, ?_, ?_, ?_⟩
          · rw [hO]
            have : mid = mid.take o1 ++ ((mid.drop o1).take (l * (z1' + 1)) ++ mid.drop (o1 + l * (z1' + 1))) := by
              rw [← List.drop_drop, List.take_append_drop, List.take_append_drop]
            congr 3
            conv => lhs; rw [this]
            simp only [List.append_assoc]
          · rw [hkN]; simp [hpre]; omega
          · rw [takeL_eq, dropL_eq]
            exact VRels.mono sub1 _ _ ((hm.drop o1).take _)
          · rw [hkN]
            have e3 : (c - l + k1.slack) * z1'.succ = (c * (z1' + 1) - l * (z1' + 1)) + k1.slack * (z1' + 1) := by
              show (c - l + k1.slack) * (z1' + 1) = _
              rw [Nat.add_mul, Nat.sub_mul]
            simp only [List.length_append, List.length_drop, hpost, hml, ← hlen, e3]
            have : k1.slack * z1'.succ = k1.slack * (z1' + 1) := rfl
            omega
          · have e2 : (pre ++ mid.take o1 ++ (mid.drop o1).take (l * (z1' + 1)) ++ (mid.drop (o1 + l * (z1' + 1)) ++ post)).length = (pre ++ mid ++ post).length := by
              simp; omega
            rw [e2]; exact hfr
          · exact ⟨(fun h => by cases h), hmk⟩
        refine ⟨μ1.put nx kN, ?_, ⟨?_, ?_⟩, ?_, ?_⟩
        · simp only [VRel]
          refine ⟨_, _, rfl, kN, Mu.put_same _ _ _, by rw [hkN]; rfl, ?_⟩
          rw [hkN]; simp; omega
        · intro x ox hx hlx
          by_cases hxn : x = nx
          · subst hxn
            rw [T.get_set_same] at hx; cases hx
            exact ⟨kN, Mu.put_same _ _ _, by rw [hkN] at hrow ⊢; exact hrow⟩
          · obtain ⟨h1, h2, h3⟩ := keep x ox hxn hx hlx
            obtain ⟨kx, hkx, r⟩ := hh.obj x ox h3 hlx
            refine ⟨kx, sub _ _ hkx, ?_⟩
            have hlt : kx.block < w.heap.size := hh.lt ⟨x, ox, kx, h3, hlx, hkx, rfl⟩
            rw [st.ext.frame _ hlt (apart x ox kx h1 h2 h3 hlx hkx)]
            exact r.mono sub
        · intro x x' ox ox' kx kx' hx hlx hx' hlx' hkx hkx' e'
          by_cases hxn : x = nx
          · by_cases hxn' : x' = nx
            · rw [hxn, hxn']
            · obtain ⟨h1, h2, h3⟩ := keep x' ox' hxn' hx' hlx'
              obtain ⟨j, hj, _⟩ := hh.obj x' ox' h3 hlx'
              have := sub _ _ hj; rw [hkx'] at this; cases this
              subst hxn; rw [Mu.put_same] at hkx; cases hkx
              rw [hkN] at e'
              exact absurd e'.symm (newB x' ox' _ h1 h2 h3 hlx' hj)
          · obtain ⟨h1, h2, h3⟩ := keep x ox hxn hx hlx
            obtain ⟨j, hj, _⟩ := hh.obj x ox h3 hlx
            have := sub _ _ hj; rw [hkx] at this; cases this
            by_cases hxn' : x' = nx
            · subst hxn'; rw [Mu.put_same] at hkx'; cases hkx'
              rw [hkN] at e'
              exact absurd e' (newB x ox _ h1 h2 h3 hlx hj)
            · obtain ⟨h1', h2', h3'⟩ := keep x' ox' hxn' hx' hlx'
              obtain ⟨j', hj', _⟩ := hh.obj x' ox' h3' hlx'
              have := sub _ _ hj'; rw [hkx'] at this; cases this
              exact hh.inj x x' ox ox' _ _ h3 hlx h3' hlx' hj hj' e'
        · intro x hx; exact hout x hx
        · refine ⟨st.ext.os, st.ext.tape, st.ext.output, st.ext.size, ?_, ?_⟩
          · intro B hB ht; exact st.ext.frame B hB (fun h => ht (trS B h))
          · rintro B ⟨x, ox, kx, hx, hlx, hkx, rfl⟩
            by_cases hxn : x = nx
            · subst hxn; rw [Mu.put_same] at hkx; cases hkx
              rw [hkN]
              rcases st.ext.tr _ hblk with h | h
              · exact .inl (trS _ h)
              · exact .inr h
            · obtain ⟨h1, h2, h3⟩ := keep x ox hxn hx hlx
              obtain ⟨j, hj, _⟩ := hh.obj x ox h3 hlx
              have := sub _ _ hj; rw [hkx] at this; cases this
              exact .inl ⟨x, ox, _, h3, hlx, hj, rfl⟩
      · cases hv
    · cases hv
  · cases hv

theorem loc_heap {μ μL : Mu} {S : St} {w : World} {b : Nat} {cells : List AV} {e : TypeId} {z z' : Nat} {k kL : Blk} {rest : List AV} {loc : List AV}
    (hh : HRel μ ρ S.heap w) (hb : S.heap.get b = some (.row cells e z)) (hk : μ b = some k) (hn : μ S.next = none)
    (hL : ∀ x, x ≠ S.next → μL x = μ x) (hLs : μL S.next = some kL) (hkL : kL.block = k.block) (ho : ORel μL ρ kL (.row loc e z') w.heap[k.block]?) :
    HRel μL ρ ((locH (S.heap.set b .dead) rest).set S.next (.row loc e z')) w := by
  have sub : Sub μ μL := by
    intro x kx hx
    by_cases hxs : x = S.next
    · subst hxs; rw [hn] at hx; cases hx
    · rw [hL x hxs]; exact hx
  have old : ∀ x ox, x ≠ S.next → ((locH (S.heap.set b .dead) rest).set S.next (.row loc e z')).get x = some ox → ox.live = true → x ≠ b ∧ S.heap.get x = some ox := by
    intro x ox hxs hx hlx
    rw [T.get_set_other _ _ hxs] at hx
    obtain ⟨h1, _⟩ := locH_get _ _ _ _ hx
    rw [T.get_set] at h1
    split at h1
    · cases h1; simp [AObj.live] at hlx
    · rename_i hxb; exact ⟨hxb, h1⟩
  constructor
  · intro x ox hx hlx
    by_cases hxs : x = S.next
    · subst hxs; rw [T.get_set_same] at hx; cases hx
      exact ⟨kL, hLs, by rw [hkL]; exact ho⟩
    · obtain ⟨h1, h2⟩ := old x ox hxs hx hlx
      obtain ⟨kx, hkx, r⟩ := hh.obj x ox h2 hlx
      exact ⟨kx, sub _ _ hkx, r.mono sub⟩
  · intro x x' ox ox' kx kx' hx hlx hx' hlx' hkx hkx' e'
    by_cases hxs : x = S.next
    · by_cases hxs' : x' = S.next
      · rw [hxs, hxs']
      · obtain ⟨h1, h2⟩ := old x' ox' hxs' hx' hlx'
        subst hxs; rw [hLs] at hkx; cases hkx
        rw [hL x' hxs'] at hkx'
        exact absurd (hh.inj x' b ox' _ kx' k h2 hlx' hb rfl hkx' hk (by rw [← e', hkL])) h1
    · obtain ⟨h1, h2⟩ := old x ox hxs hx hlx
      rw [hL x hxs] at hkx
      by_cases hxs' : x' = S.next
      · subst hxs'; rw [hLs] at hkx'; cases hkx'
        exact absurd (hh.inj x b ox _ kx k h2 hlx hb rfl hkx hk (by rw [e', hkL])) h1
      · obtain ⟨h1', h2'⟩ := old x' ox' hxs' hx' hlx'
        rw [hL x' hxs'] at hkx'
        exact hh.inj x x' ox ox' kx kx' h2 hlx h2' hlx' hkx hkx' e'

theorem anys_ok {μ : Mu} : ∀ (L : List Value), VRels μ ρ (repL [.sym .any] L.length) L
  | [] => VRels.nil
  | V :: L => by
    show VRels μ ρ (appL [.sym .any] (repL [.sym .any] L.length)) (V :: L)
    rw [appL_eq]
    exact VRels.cons (by simp only [VRel, SyRel]) (anys_ok L)

theorem twoF_ok [RhoOk P ρ] {callF : CallF} (hC : CallFOk P ρ callF) : CallFOk P ρ (twoF callF) := by
  intro f args S v S' hl
  unfold twoF at hl
  split at hl
  · rename_i b o n c rest
    split at hl
    · rename_i cells e z hb
      split at hl
      · rename_i hfull
        have hfull : o + c * (z + 1) = cells.length := by have := Nat.eq_of_beq_eq_true hfull; rw [lenL_eq] at this; exact this
        split at hl
        · rename_i v1 S1 v2 S2 ec1 ec2
          split at hl
          · rename_i l1 e1 z1 cs1 l2 e2 z2 cs2 ev1 ev2
            split at hl
            · rename_i hcond
              simp only [Bool.and_eq_true] at hcond
              obtain ⟨⟨⟨g1, g2⟩, g3⟩, g4⟩ := hcond
              have g1 := Nat.eq_of_beq_eq_true g1
              have g2 := Nat.eq_of_beq_eq_true g2
              have g3 := Nat.eq_of_beq_eq_true g3
              have g4 := beqAVs_eq _ _ g4
              subst g1; subst g2; subst g3; subst g4
              simp only [Option.some.injEq, Prod.mk.injEq] at hl
              obtain ⟨rfl, rfl⟩ := hl
              obtain ⟨n1, hcf, h1⟩ := hC _ _ _ _ _ ec1
              obtain ⟨n2, _, h2⟩ := hC _ _ _ _ _ ec2
              have n1 : S.next + 1 ≤ S1.next := n1
              have n2 : S.next + 1 ≤ S2.next := n2
              have m1 : S1.next ≤ Nat.max S1.next S2.next := Nat.le_max_left _ _
              have m2 : S2.next ≤ Nat.max S1.next S2.next := Nat.le_max_right _ _
              refine ⟨by simp only []; omega, hcf, ?_⟩
              intro μ w A hh hf hv
              have hf : Fresh μ S.next (Nat.max S1.next S2.next + 1) := hf
              have hn : μ S.next = none := hf _ (Nat.le_refl _) (by omega)
              obtain ⟨V0, Vs, eA, hV0, hVs⟩ := hv.cons_inv
              simp only [VRel] at hV0
              obtain ⟨A0, C, rfl, k, hk, rfl, rfl⟩ := hV0
              obtain ⟨k', hk', pre, mid, post, fz, hO, hpre, hm, hpost, hfr, _, hmk⟩ := hh.obj b _ hb rfl
              rw [hk] at hk'; cases hk'
              by_cases hs : k.slack = 0
              · have hL : ∀ x, x ≠ S.next → (μ.put S.next k) x = μ x := fun x hx => Mu.put_other _ _ hx
                have sub := Mu.sub_put k hn
                have ho : ORel (μ.put S.next k) ρ k (.row cells e z.succ) w.heap[k.block]? :=
                  ⟨pre, mid, post, fz, hO, hpre, VRels.mono sub _ _ hm, hpost, hfr, (fun h => by cases h), hmk⟩
                have hH := loc_heap (rest := rest) hh hb hk hn hL (Mu.put_same _ _ _) rfl ho
                have hargs : VRels (μ.put S.next k) ρ (.slc (some (S.next, o)) n c false :: rest) A.toList := by
                  rw [eA]
                  refine VRels.cons ?_ (VRels.mono sub _ _ hVs)
                  simp only [VRel]
                  exact ⟨_, _, rfl, k, Mu.put_same _ _ _, rfl, by simp [hs]⟩
                have hfr' : Fresh (μ.put S.next k) (S.next + 1) S1.next := fun x h1 h2 => by rw [hL x (by omega)]; exact hf x (by omega) (by omega)
                refine (h1 _ w A hH hfr' hargs).mono ?_
                rintro en w' ⟨V, μ1, rfl, st⟩
                obtain ⟨μ2, st2⟩ := two_fin hh hb hk hf hL (Mu.put_same _ _ _) rfl n1 m1 st ev1
                exact ⟨V, μ2, rfl, st2⟩
              · obtain ⟨kL, hkL⟩ : ∃ kL : Blk, kL = ⟨k.block, k.base, k.slack - 1⟩ := ⟨_, rfl⟩
                have hL : ∀ x, x ≠ S.next → (μ.put S.next kL) x = μ x := fun x hx => Mu.put_other _ _ hx
                have sub := Mu.sub_put kL hn
                have hpl : z + 1 ≤ post.length := by
                  rw [hpost]
                  obtain ⟨s, hs'⟩ : ∃ s, k.slack = s + 1 := ⟨k.slack - 1, by omega⟩
                  rw [hs', Nat.add_mul]
                  show z + 1 ≤ s * (z + 1) + 1 * (z + 1)
                  omega
                have ho : ORel (μ.put S.next kL) ρ kL (.row (appL cells (repL [.sym .any] z.succ)) e z.succ) w.heap[k.block]? := by
                  refine ⟨pre, mid ++ post.take (z + 1), post.drop (z + 1), fz, ?_, by rw [hkL]; exact hpre, ?_, ?_, ?_, (fun h => by cases h), hmk⟩
                  · rw [hO]; congr 3
                    simp only [List.append_assoc, List.take_append_drop]
                  · rw [appL_eq]
                    refine (VRels.mono sub _ _ hm).append ?_
                    have := anys_ok (ρ := ρ) (μ := μ.put S.next kL) (post.take (z + 1))
                    rw [List.length_take, Nat.min_eq_left hpl] at this
                    exact this
                  · rw [hkL, List.length_drop, hpost]
                    show k.slack * (z + 1) - (z + 1) = (k.slack - 1) * (z + 1)
                    rw [Nat.sub_mul]; omega
                  · have e3 : (pre ++ (mid ++ post.take (z + 1)) ++ post.drop (z + 1)).length = (pre ++ mid ++ post).length := by
                      simp only [List.length_append, List.length_take, List.length_drop]; omega
                    rw [e3]; exact hfr
                have hH := loc_heap (rest := rest) hh hb hk hn hL (Mu.put_same _ _ _) (by rw [hkL]) ho
                have hargs : VRels (μ.put S.next kL) ρ (.slc (some (S.next, o)) n (Nat.succ c) true :: rest) A.toList := by
                  rw [eA]
                  refine VRels.cons ?_ (VRels.mono sub _ _ hVs)
                  simp only [VRel]
                  exact ⟨_, _, rfl, kL, Mu.put_same _ _ _, by rw [hkL], by rw [hkL]; simp; omega⟩
                have hfr' : Fresh (μ.put S.next kL) (S.next + 1) S2.next := fun x h1 h2 => by rw [hL x (by omega)]; exact hf x (by omega) (by omega)
                refine (h2 _ w A hH hfr' hargs).mono ?_
                rintro en w' ⟨V, μ1, rfl, st⟩
                obtain ⟨μ2, st2⟩ := two_fin hh hb hk hf hL (Mu.put_same _ _ _) (by rw [hkL]) n2 m2 st ev2
                exact ⟨V, μ2, rfl, st2⟩
            · cases hl
          · cases hl
        · cases hl
      · cases hl
    · cases hl
  · cases hl
end
end Go.Eng
/- Engine, part 18b: a call of which neither what goes in nor what comes out names memory: it is reckoned over no memory at all. -/
namespace Go.Eng
open Go

def clsd : AV → Bool
  | .bool _ => true
  | .int _ _ => true
  | .str _ => true
  | .nilFn => true
  | .nilIface => true
  | _ => false
noncomputable def clsds (l : List AV) : Bool := List.rec (motive := fun _ => Bool) true (fun v _ ih => match clsd v with | true => ih | false => false) l
noncomputable def clsdR (v : AV) : Bool := match v with | .tup l => clsds l | .agg l => clsds l | v => clsd v

theorem clsd_ok {μ μ' : Mu} {ρ : Rho} {v : AV} {V : Value} (h : clsd v = true) (r : VRel μ ρ v V) : VRel μ' ρ v V := by
  cases v <;> first | (simp [clsd] at h; done) | (simpa only [VRel] using r)
theorem clsds_ok {μ μ' : Mu} {ρ : Rho} : ∀ {vs : List AV} {Vs : List Value}, clsds vs = true → VRels μ ρ vs Vs → VRels μ' ρ vs Vs
  | [], _, _, r => by rw [r.nil_inv]; exact VRels.nil
  | v :: vs, _, h, r => by
    obtain ⟨V, Ws, rfl, r1, r2⟩ := r.cons_inv
    have h' : (match clsd v with | true => clsds vs | false => false) = true := h
    cases hv : clsd v with
    | false => rw [hv] at h'; cases h'
    | true => rw [hv] at h'; exact VRels.cons (clsd_ok hv r1) (clsds_ok h' r2)
theorem clsdR_ok {μ μ' : Mu} {ρ : Rho} {v : AV} {V : Value} (h : clsdR v = true) (r : VRel μ ρ v V) : VRel μ' ρ v V := by
  cases v with
  | tup l => simp only [VRel] at r ⊢; obtain ⟨A, rfl, r⟩ := r; exact ⟨A, rfl, clsds_ok h r⟩
  | agg l => simp only [VRel] at r ⊢; obtain ⟨A, rfl, r⟩ := r; exact ⟨A, rfl, clsds_ok h r⟩
  | _ => exact clsd_ok h r

/-- the same, over no memory -/
noncomputable def freeR (r : Option (AV × St)) (S : St) : Option (AV × St) :=
  match r with
  | some p => (match clsdR p.1 with | true => some (p.1, S) | false => none)
  | none => none
noncomputable def freeF (callF : CallF) : CallF := fun f args S =>
  match clsds args with
  | true => freeR (callF f args ⟨.leaf, 0⟩) S
  | false => none

section
variable {P : Program} {ρ : Rho}
theorem freeF_ok {callF : CallF} (hC : CallFOk P ρ callF) : CallFOk P ρ (freeF callF) := by
  intro f args S v S' hl
  unfold freeF freeR at hl
  split at hl
  · rename_i hcl
    split at hl
    · rename_i p ep
      split at hl
      · rename_i hv
        simp only [Option.some.injEq, Prod.mk.injEq] at hl
        obtain ⟨rfl, rfl⟩ := hl
        obtain ⟨v, S1⟩ := p
        obtain ⟨n1, hcf, h1⟩ := hC _ _ _ _ _ ep
        refine ⟨Nat.le_refl _, hcf, ?_⟩
        intro μ w A hh hf hA
        have hH : HRel (fun _ => none) ρ (T.leaf : T AObj) w := ⟨(fun b o h => by rw [T.get_leaf] at h; cases h), (fun b b' o o' k k' h => by rw [T.get_leaf] at h; cases h)⟩
        refine (h1 (fun _ => none) w A hH (fun _ _ _ => rfl) (clsds_ok hcl hA)).mono ?_
        rintro e w' ⟨V, μ', rfl, st⟩
        have hno : ∀ B, ¬ tracked (T.leaf : T AObj) (fun _ => none) B := by
          rintro B ⟨x, ox, kx, hx, _⟩
          rw [T.get_leaf] at hx; cases hx
        refine ⟨V, μ, rfl, clsdR_ok hv st.val, hh.keep (Sub.refl _) (fun B t => st.ext.frame B (hh.lt t) (hno B)), Grow.refl _ _ _, st.ext.os, st.ext.tape, st.ext.output, st.ext.size, fun B hB _ => st.ext.frame B hB (hno B), fun _ h => .inl h⟩
      · cases hl
    · cases hl
  · cases hl
end
end Go.Eng
/- Engine, part 19: code, calls. -/
namespace Go.Eng
open Go

abbrev DrawF := CallF → CodeF → Option Nat → Array Oper → Fr → St → Option (Fr × St)

noncomputable def loopF (codeF : CodeF) (ro : Option Nat) (b : Code) (m : Nat) : Fr → St → Option (AX × Fr × St) :=
  Nat.rec (motive := fun _ => Fr → St → Option (AX × Fr × St)) (fun _ _ => none) (fun _ ih fr S => match codeF ro b fr S with
    | some (.normal, fr1, S1) => ih fr1 S1
    | some (.ret, fr1, S1) => some (.ret, fr1, S1)
    | some (.exit id, fr1, S1) => some (.exit id, fr1, S1)
    | none => none) m

noncomputable def enterF (ro : Option Nat) (fr : Fr) (ps : Array Tmp) (asg body : Code) (S : St) : Option (Nat × Fr × St) :=
  match ro with
  | none => some (Nat.succ S.next, ⟨fr.tmps, fr.ntm, .mark S.next :: fr.defers⟩,
      ⟨(S.heap.set S.next (.dfr false)).set (Nat.succ S.next) (.loop ⟨.ready, none, fr.tmps, fr.ntm, ps, asg, body, S.next⟩), Nat.succ (Nat.succ S.next)⟩)
  | some l0 => (match S.heap.get l0 with
    | some (.loop r0) => some (S.next, fr, ⟨S.heap.set S.next (.loop ⟨.ready, none, fr.tmps, fr.ntm, ps, asg, body, r0.defers⟩), Nat.succ S.next⟩)
    | _ => none)

noncomputable def rangeF (callF : CallF) (ro : Option Nat) (g : Operand) (ps : Array Tmp) (asg body : Code) (fr : Fr) (S : St) : Option (AX × Fr × St) :=
  match aev fr g with
  | some (.fn (.func f) A B) => (match enterF ro fr ps asg body S with
    | some (l, fr1, S1) => (match callF f (appL A (.fn (.yield l) [] [] :: B)) S1 with
      | some (_, S2) => (match S2.heap.get l with
        | some (.loop r) => (match r.state, axOf r.pending with
          | .busy, _ => none
          | _, some x => some (x, fr1, ⟨S2.heap.set l (.loop { r with state := .exhausted }), S2.next⟩)
          | _, none => none)
        | _ => none)
      | none => none)
    | none => none)
  | _ => none

noncomputable def codeBody (P : Program) (ext : T AnsF) (drawF : DrawF) (callF : CallF) (codeF : CodeF) : CodeF := fun ro c fr S =>
  match c with
  | .skip => some (.normal, fr, S)
  | .label _ => some (.normal, fr, S)
  | .region _ ops draw => (match draw with
    | false => (match opsF P (callX ext callF) codeF ro ops.toList ops.toList fr S with | some (fr1, S1) => some (.normal, fr1, S1) | none => none)
    | true => (match drawF (callX ext callF) codeF ro ops fr S with | some (fr1, S1) => some (.normal, fr1, S1) | none => none))
  | .seq a b => (match codeF ro a fr S with
    | some (.normal, fr1, S1) => codeF ro b fr1 S1
    | some (.ret, fr1, S1) => some (.ret, fr1, S1)
    | some (.exit id, fr1, S1) => some (.exit id, fr1, S1)
    | none => none)
  | .cond x t e => (match aev fr x with
    | some (.bool true) => codeF ro t fr S
    | some (.bool false) => codeF ro e fr S
    | _ => none)
  | .block id b => (match codeF ro b fr S with
    | some (.exit j, fr1, S1) => (match Nat.beq j id with | true => some (.normal, fr1, S1) | false => some (.exit j, fr1, S1))
    | some (.normal, fr1, S1) => some (.normal, fr1, S1)
    | some (.ret, fr1, S1) => some (.ret, fr1, S1)
    | none => none)
  | .loop b => loopF codeF ro b 100000 fr S
  | .rangeFunc g ps asg body => rangeF callF ro g ps asg body fr S
  | .exit id => some (.exit id, fr, S)
  | .scope b => codeF ro b fr S
  | .ret => some (.ret, fr, S)
  | _ => none

noncomputable def initT (vs : List AV) : Nat → ET → ET :=
  List.rec (motive := fun _ => Nat → ET → ET) (fun _ t => t) (fun v _ ih i t => ih (Nat.succ i) (t.set i v)) vs

noncomputable def resL (P : Program) (fr : Fr) (S : T AObj) (rs : List ResultVar) : Option (List AV) :=
  List.rec (motive := fun _ => Option (List AV)) (some []) (fun r _ ih => match r with
    | .tmp t => (match aev fr (.tmp t), ih with | some v, some vs => some (v :: vs) | _, _ => none)
    | .cell a t => (match aev fr (.tmp a), ih with
      | some u, some vs => (match aload P S t u with | some v => some (v :: vs) | none => none)
      | _, _ => none)) rs
noncomputable def resF (P : Program) (fn : Func) (fr : Fr) (S : St) : Option AV :=
  match resL P fr S.heap fn.results.toList with
  | some [v] => some v
  | some vs => some (.tup vs)
  | none => none

/-- a deferred call: no deferred calls of its own -/
noncomputable def lateF (P : Program) (tab : T Func) (codeF : CodeF) (f : FuncId) (args : List AV) (S : St) : Option St :=
  match tab.get f with
  | some fn => (match fn.body with
    | some c => (match Nat.ble (lenL args) (lim fn.ntmps) with
      | true => (match codeF none c ⟨initT args 0 ET.emp, fn.ntmps, []⟩ S with
        | some (.normal, fr, S1) => (match fr.defers, resF P fn fr S1 with | [], some _ => some S1 | _, _ => none)
        | some (.ret, fr, S1) => (match fr.defers, resF P fn fr S1 with | [], some _ => some S1 | _, _ => none)
        | _ => none)
      | false => none)
    | none => none)
  | none => none

noncomputable def leaveF (P : Program) (tab : T Func) (codeF : CodeF) (fn : Func) (fr : Fr) (ds : List ADef) : St → Option (AV × St) :=
  List.rec (motive := fun _ => St → Option (AV × St)) (fun S => match resF P fn fr S with | some v => some (v, S) | none => none)
    (fun d _ ih S => match d with
      | .mark b => (match S.heap.get b with
        | some (.dfr false) => ih ⟨S.heap.set b (.dfr true), S.next⟩
        | _ => none)
      | .call f args => (match lateF P tab codeF f args S with | some S1 => ih S1 | none => none)) ds

abbrev Sum := List AV → St → Option (AV × St)

noncomputable def callPlain (P : Program) (tab : T Func) (codeF : CodeF) : CallF := fun f args S =>
  match tab.get f with
  | some fn => (match fn.body with
    | some c => (match Nat.ble (lenL args) (lim fn.ntmps) with
      | true => (match codeF none c ⟨initT args 0 ET.emp, fn.ntmps, []⟩ S with
        | some (.normal, fr, S1) => leaveF P tab codeF fn fr fr.defers S1
        | some (.ret, fr, S1) => leaveF P tab codeF fn fr fr.defers S1
        | _ => none)
      | false => none)
    | none => none)
  | none => none

/-- the tables: functions; summaries; those that the model answers itself; those that are reckoned twice -/
structure Tabs where
  fns : T Func
  sum : T Sum
  ext : T AnsF
  two : T Unit
  free : T Unit

noncomputable def callBody (P : Program) (tb : Tabs) (codeF : CodeF) : CallF := fun f args S =>
  match tb.sum.get f with
  | some g => (match g args S with | some r => some r | none => callPlain P tb.fns codeF f args S)
  | none => (match tb.two.get f with
    | some _ => (match twoF (callPlain P tb.fns codeF) f args S with | some r => some r | none => callPlain P tb.fns codeF f args S)
    | none => (match tb.free.get f with
      | some _ => (match freeF (callPlain P tb.fns codeF) f args S with | some r => some r | none => callPlain P tb.fns codeF f args S)
      | none => callPlain P tb.fns codeF f args S))

noncomputable def evalN (P : Program) (tb : Tabs) (drawF : DrawF) (n : Nat) : CodeF × CallF :=
  Nat.rec (motive := fun _ => CodeF × CallF) (fun _ _ _ _ => none, fun _ _ _ => none)
    (fun _ ih => (codeBody P tb.ext drawF ih.2 ih.1, callBody P tb ih.1)) n

def TabOk (P : Program) (tab : T Func) : Prop := ∀ f fn, tab.get f = some fn → P.funcs[f]? = some fn ∧ ∀ A w, (callFunc f A).run P w = .ok (.enter f A) w
def SumOk (P : Program) (ρ : Rho) (sum : T Sum) : Prop := ∀ f g, sum.get f = some g → CallFOk P ρ (fun f' args S => if f' = f then g args S else none)
structure TabsOk (P : Program) (ρ : Rho) (tb : Tabs) : Prop where
  fns : TabOk P tb.fns
  sum : SumOk P ρ tb.sum
  ext : ∀ f g, tb.ext.get f = some g → ExtOk P ρ f g
def DrawFOk (P : Program) (ρ : Rho) (drawF : DrawF) : Prop := ∀ callF codeF, CallXOk P ρ callF → CodeFOk P ρ codeF → ∀ ro ops fr fr' S S', drawF callF codeF ro ops fr S = some (fr', S') → S.next ≤ S'.next ∧
  ∀ μ w a F, FOf μ ro F → HRel μ ρ S.heap w → Fresh μ S.next S'.next → FRel μ ρ fr a → ∀ (id : Nat) (Q : Exit → Act → World → Prop), (∀ a' w' μ', Left P ρ μ S w fr' S' a' w' μ' → Q .normal a' w') →
    (Code.region id ops true).wpIn F 0 P Q a w

section
variable {P : Program} {ρ : Rho}
section
variable {b : Frame} {a : Act} {k : List Item} {cs : List Frame} {w : World}
theorem stepR_scope {c : Code} : step P (lone (b.atR a (.code (.scope c) :: k)) cs w) = .next (lone (b.atR a (.code c :: .inScope c :: k)) cs w) :=
  step_lone_go (by simp [stepG, stepG.exec, Frame.atR])
theorem stepR_inScope {c : Code} : step P (lone (b.atR a (.inScope c :: k)) cs w) = .next (lone (b.atR a k) cs w) :=
  step_lone_go (by simp [stepG, stepG.exec, Frame.atR])
end
theorem wpIn_scope' {F : Fence} {n : Nat} {Q : Exit → Act → World → Prop} {a : Act} {w : World} {c : Code} (hg : ∀ l a w, ¬ Q (.goto l) a w) (h : c.wpIn F n P Q a w) : (Code.scope c).wpIn F n P Q a w := by
  intro b k cs hro hb hr
  have h0 : (lone (b.atR a (.code (.scope c) :: k)) cs w).fenced P F := fenced_calm hb hr rfl
  obtain ⟨e, a₁, w₁, hq, harr⟩ := h b (.inScope c :: k) cs hro hb hr
  cases e with
  | normal => exact ⟨.normal, a₁, w₁, hq, .head h0 stepR_scope (StepsIn.trans harr (.one (fenced_calm hb hr rfl) stepR_inScope))⟩
  | exit id' =>
    have hx : exitTo id' (.inScope c :: k) = exitTo id' k := by simp [exitTo]
    exact ⟨.exit id', a₁, w₁, hq, fun k' hk => .head h0 stepR_scope (harr.1 k' (by rw [hx]; exact hk)),
        fun hr' hk => let ⟨k₁, h1, h2⟩ := harr.2 hr' (by rw [hx]; exact hk); ⟨k₁, h1, .head h0 stepR_scope h2⟩⟩
  | goto l => exact absurd hq (hg _ _ _)
  | ret => exact ⟨_, a₁, w₁, hq, .of_steps (.one h0 stepR_scope) harr⟩
  | panic ch => exact ⟨_, a₁, w₁, hq, .of_steps (.one h0 stepR_scope) harr⟩
  | outgrown => exact ⟨_, a₁, w₁, hq, .of_steps (.one h0 stepR_scope) harr⟩

theorem CPost.then [RhoOk P ρ] {μ μ' : Mu} {S S1 S2 : St} {w w1 : World} {fr1 fr2 : Fr} {a1 : Act} {x : AX} (left : Left P ρ μ S w fr1 S1 a1 w1 μ') (n1 : S.next ≤ S1.next) (n2 : S1.next ≤ S2.next) {e : Exit} {a2 : Act} {w2 : World}
    (h : CPost P ρ μ' S1 w1 x fr2 S2 e a2 w2) : CPost P ρ μ S w x fr2 S2 e a2 w2 := by
  obtain ⟨hx, μ2, l2⟩ := h
  exact ⟨hx, μ2, left.then l2 n1 n2⟩

theorem loopF_ok [RhoOk P ρ] {codeF : CodeF} (hD : CodeFOk P ρ codeF) {ro : Option Nat} {b : Code} : ∀ (m : Nat) (fr fr' : Fr) (S S' : St) (x : AX), loopF codeF ro b m fr S = some (x, fr', S') → S.next ≤ S'.next ∧ x ≠ .normal ∧
    ∀ μ w a F, FOf μ ro F → HRel μ ρ S.heap w → Fresh μ S.next S'.next → FRel μ ρ fr a → Code.roundsIn F 0 P b (CPost P ρ μ S w x fr' S') m a w
  | 0, fr, fr', S, S', x, hl => by cases hl
  | m + 1, fr, fr', S, S', x, hl => by
    have hl' : (match codeF ro b fr S with
      | some (.normal, fr1, S1) => loopF codeF ro b m fr1 S1
      | some (.ret, fr1, S1) => some (.ret, fr1, S1)
      | some (.exit id, fr1, S1) => some (.exit id, fr1, S1)
      | none => none) = some (x, fr', S') := hl
    split at hl'
    · rename_i fr1 S1 e1
      obtain ⟨n1, h1⟩ := hD _ _ _ _ _ _ _ e1
      obtain ⟨n2, hx, h2⟩ := loopF_ok hD m _ _ _ _ _ hl'
      refine ⟨Nat.le_trans n1 n2, hx, ?_⟩
      intro μ w a F hF hh hf hr
      rw [roundsIn_succ]
      refine wpIn_mono (h1 μ w a F hF hh (hf.left n2) hr) ?_
      rintro e a1 w1 ⟨hx1, μ1, l1⟩
      cases hx1
      have sub := l1.grow.sub (hf.left n2)
      have := h2 μ1 w1 a1 F (hF.mono sub) l1.heap (hf.right n1 l1.grow) l1.fr
      have mono : ∀ (m : Nat) (a : Act) (w0 : World), Code.roundsIn F 0 P b (CPost P ρ μ1 S1 w1 x fr' S') m a w0 → Code.roundsIn F 0 P b (CPost P ρ μ S w x fr' S') m a w0 := by
        intro m
        induction m with
        | zero => intro a w0 h; exact h
        | succ m ih =>
          intro a w0 h
          rw [roundsIn_succ] at h ⊢
          refine wpIn_mono h ?_
          intro e a2 w2 hq
          cases e <;> first | exact ih _ _ hq | exact CPost.then l1 n1 n2 hq
      exact mono m a1 w1 this
    · rename_i fr1 S1 e1
      simp only [Option.some.injEq, Prod.mk.injEq] at hl'
      obtain ⟨rfl, rfl, rfl⟩ := hl'
      obtain ⟨n1, h1⟩ := hD _ _ _ _ _ _ _ e1
      refine ⟨n1, by simp, ?_⟩
      intro μ w a F hF hh hf hr
      rw [roundsIn_succ]
      refine wpIn_mono (h1 μ w a F hF hh hf hr) ?_
      rintro e a1 w1 ⟨hx1, μ1, l1⟩
      cases hx1
      exact ⟨rfl, μ1, l1⟩
    · rename_i id fr1 S1 e1
      simp only [Option.some.injEq, Prod.mk.injEq] at hl'
      obtain ⟨rfl, rfl, rfl⟩ := hl'
      obtain ⟨n1, h1⟩ := hD _ _ _ _ _ _ _ e1
      refine ⟨n1, by simp, ?_⟩
      intro μ w a F hF hh hf hr
      rw [roundsIn_succ]
      refine wpIn_mono (h1 μ w a F hF hh hf hr) ?_
      rintro e a1 w1 ⟨hx1, μ1, l1⟩
      cases hx1
      exact ⟨rfl, μ1, l1⟩
    · cases hl'
end
end Go.Eng
/- Engine, part 20: ranges over functions; code, whole. -/
namespace Go.Eng
open Go
section
variable {P : Program} {ρ : Rho}

theorem Left.of {μ μ' : Mu} {S S' : St} {w w' : World} {fr' : Fr} {a' : Act} {v : AV} {V : Value} (h : Stepped P ρ μ S w v S' V w' μ') (hr : FRel μ' ρ fr' a') : Left P ρ μ S w fr' S' a' w' μ' := ⟨hr, h.heap, h.grow, h.ext⟩

/-- entering the statement -/
theorem enterF_ok [RhoOk P ρ] {ro : Option Nat} {fr fr1 : Fr} {ps : Array Tmp} {asg body : Code} {S S1 : St} {l : Nat} (hl : enterF ro fr ps asg body S = some (l, fr1, S1)) : S.next ≤ S1.next ∧
    ∀ μ w a F, FOf μ ro F → HRel μ ρ S.heap w → Fresh μ S.next S1.next → FRel μ ρ fr a → ∀ fn, ∃ k mark w1 μ1, (Instr.enterLoop fn a.tmps ps asg body F.round).run P w = .ok (k.block, mark) w1 ∧ μ1 l = some k ∧
      Left P ρ μ S w fr1 S1 { a with defers := mark ++ a.defers } w1 μ1 := by
  cases ro with
  | none =>
    simp only [enterF, Option.some.injEq, Prod.mk.injEq] at hl
    obtain ⟨rfl, rfl, rfl⟩ := hl
    refine ⟨Nat.le_trans (Nat.le_succ _) (Nat.le_succ _), ?_⟩
    intro μ w a F hF hh hf hr fn
    cases hF
    have hf1 : Fresh μ S.next (Nat.succ S.next) := hf.left (Nat.le_succ _)
    -- the block for deferred calls
    have st1 := step_new (P := P) (S := S) hh hf1 (hh.free (hf1 _ (Nat.le_refl _) (Nat.lt_succ_self _))) (O := .deferred (some [])) (ob := .dfr false) (w' := w.alloc (.deferred (some []))) (slack := 0) rfl rfl rfl rfl (fun _ _ => rfl) (v := undefV) (V := undef) (fun _ _ _ => undef_ok)
    have hf2 : Fresh (μ.put S.next ⟨w.heap.size, 0, 0⟩) (Nat.succ S.next) (Nat.succ (Nat.succ S.next)) := hf.right (Nat.le_succ _) st1.grow
    have hk1 : (μ.put S.next ⟨w.heap.size, 0, 0⟩) S.next = some ⟨w.heap.size, 0, 0⟩ := Mu.put_same _ _ _
    have sub1 := st1.grow.sub hf1
    have st2 := step_new (P := P) (S := ⟨S.heap.set S.next (.dfr false), Nat.succ S.next⟩) st1.heap hf2 (st1.heap.free (S := ⟨S.heap.set S.next (.dfr false), Nat.succ S.next⟩) (hf2 _ (Nat.le_refl _) (Nat.lt_succ_self _)))
      (O := .loop { state := .ready, pending := none, fn, tmps := a.tmps, params := ps, assign := asg, body, defers := w.heap.size }) (ob := .loop ⟨.ready, none, fr.tmps, fr.ntm, ps, asg, body, S.next⟩)
      (w' := (w.alloc (.deferred (some []))).alloc (.loop { state := .ready, pending := none, fn, tmps := a.tmps, params := ps, assign := asg, body, defers := w.heap.size })) (slack := 0) rfl rfl rfl rfl
      (fun μ' hs => ⟨_, rfl, rfl, rfl, (hr.tmps.mono sub1).mono hs, rfl, rfl, rfl, _, hs _ _ hk1, rfl⟩) (v := undefV) (V := undef) (fun _ _ _ => undef_ok)
    have sub2 := st2.grow.sub hf2
    have st := st1.trans st2 (Nat.le_succ _) (Nat.le_succ _)
    have hsz : (w.alloc (.deferred (some []))).heap.size = w.heap.size + 1 := World.size_alloc _ _
    refine ⟨⟨(w.alloc (.deferred (some []))).heap.size, 0, 0⟩, [{ target := .collected w.heap.size, args := #[] }], (w.alloc (.deferred (some []))).alloc (.loop { state := .ready, pending := none, fn, tmps := a.tmps, params := ps, assign := asg, body, defers := w.heap.size }),
      (μ.put S.next ⟨w.heap.size, 0, 0⟩).put (Nat.succ S.next) ⟨(w.alloc (.deferred (some []))).heap.size, 0, 0⟩, ?_, Mu.put_same _ _ _, Left.of st ⟨(hr.tmps.mono sub1).mono sub2, ?_⟩⟩
    · rw [show Fence.wide.round = none from rfl, run_enterLoop_outer]
      rw [hsz]
    · exact ⟨_, _, sub2 _ _ hk1, rfl, (hr.defers.mono sub1).mono sub2⟩
  | some l0 =>
    simp only [enterF] at hl
    split at hl
    · rename_i r0 hr0
      simp only [Option.some.injEq, Prod.mk.injEq] at hl
      obtain ⟨rfl, rfl, rfl⟩ := hl
      refine ⟨Nat.le_succ _, ?_⟩
      intro μ w a F hF hh hf hr fn
      obtain ⟨k0, hk0, rfl⟩ := hF
      obtain ⟨L0, hL0, hLR⟩ := getLoop_of hh hr0 hk0
      obtain ⟨q1, q2, q3, q4, q5, q6, kd, q7, q8⟩ := hLR
      have st := step_new (P := P) (S := S) hh hf (hh.free (hf _ (Nat.le_refl _) (Nat.lt_succ_self _)))
        (O := .loop { state := .ready, pending := none, fn, tmps := a.tmps, params := ps, assign := asg, body, defers := L0.defers }) (ob := .loop ⟨.ready, none, fr.tmps, fr.ntm, ps, asg, body, r0.defers⟩)
        (w' := w.alloc (.loop { state := .ready, pending := none, fn, tmps := a.tmps, params := ps, assign := asg, body, defers := L0.defers })) (slack := 0) rfl rfl rfl rfl
        (fun μ' hs => ⟨_, rfl, rfl, rfl, hr.tmps.mono hs, rfl, rfl, rfl, _, hs _ _ q7, q8⟩) (v := undefV) (V := undef) (fun _ _ _ => undef_ok)
      have sub := st.grow.sub hf
      refine ⟨⟨w.heap.size, 0, 0⟩, [], w.alloc (.loop { state := .ready, pending := none, fn, tmps := a.tmps, params := ps, assign := asg, body, defers := L0.defers }), μ.put S.next ⟨w.heap.size, 0, 0⟩, ?_, Mu.put_same _ _ _, Left.of st (by simpa using hr.mono sub)⟩
      rw [show (Fence.wide.inRound k0.block).round = some k0.block from rfl, run_enterLoop_inner hL0]
    · cases hl

theorem axOf_some {c : Option Code} {x : AX} (h : axOf c = some x) : (c = none ∧ x = .normal) ∨ (c = some .ret ∧ x = .ret) ∨ ∃ id, c = some (.exit id) ∧ x = .exit id := by
  unfold axOf at h
  split at h
  · cases h; exact .inl ⟨rfl, rfl⟩
  · cases h; exact .inr (.inl ⟨rfl, rfl⟩)
  · cases h; exact .inr (.inr ⟨_, rfl, rfl⟩)
  · cases h

theorem rangeF_ok [RhoOk P ρ] {callF : CallF} (hC : CallFOk P ρ callF) {ro : Option Nat} {g : Operand} {ps : Array Tmp} {asg body : Code} {fr fr' : Fr} {S S' : St} {x : AX} (hl : rangeF callF ro g ps asg body fr S = some (x, fr', S')) : S.next ≤ S'.next ∧
    ∀ μ w a F, FOf μ ro F → HRel μ ρ S.heap w → Fresh μ S.next S'.next → FRel μ ρ fr a → (Code.rangeFunc g ps asg body).wpIn F 0 P (CPost P ρ μ S w x fr' S') a w := by
  unfold rangeF at hl
  split at hl
  · rename_i f A B eg
    split at hl
    · rename_i l fr1 S1 een
      split at hl
      · rename_i v S2 ec
        split at hl
        · rename_i r hr
          have hl' : r.state ≠ .busy ∧ ∃ x', axOf r.pending = some x' ∧ (x', fr1, (⟨S2.heap.set l (.loop { r with state := .exhausted }), S2.next⟩ : St)) = (x, fr', S') := by
            split at hl
            · cases hl
            · rename_i x' ex hb
              exact ⟨fun e => hb e, x', ex, Option.some.inj hl⟩
            · cases hl
          obtain ⟨hbusy, x', ex, e⟩ := hl'
          simp only [Prod.mk.injEq] at e
          obtain ⟨rfl, rfl, rfl⟩ := e
          obtain ⟨n1, hen⟩ := enterF_ok (P := P) (ρ := ρ) een
          obtain ⟨n2, hcf, hcall⟩ := hC _ _ _ _ _ ec
          refine ⟨Nat.le_trans n1 n2, ?_⟩
          intro μ w a F hF hh hf hfr
          have hf : Fresh μ S.next S2.next := hf
          refine wpIn_rangeFunc ?_
          intro fn hfn
          obtain ⟨k, mark, w1, μ1, hrun, hk, left1⟩ := hen μ w a F hF hh (hf.left n2) hfr fn
          have sub1 := left1.grow.sub (hf.left n2)
          have hg := VRel.mono sub1 _ _ (hfr.ev _ _ eg)
          simp only [VRel] at hg
          obtain ⟨f', A', B', eg', hff, hA, hB⟩ := hg
          cases hff
          have hargs : VRels μ1 ρ (appL A (.fn (.yield l) [] [] :: B)) ((A' ++ #[Value.func (.yield k.block) #[] #[]]) ++ B').toList := by
            rw [appL_eq]
            simp only [Array.toList_append, List.append_assoc]
            refine hA.append (VRels.cons ?_ hB)
            simp only [VRel]
            exact ⟨_, _, _, rfl, ⟨k, hk, rfl⟩, VRels.nil, VRels.nil⟩
          have hf1 : Fresh μ1 S1.next S2.next := hf.right n1 left1.grow
          refine ⟨k.block, mark, w1, { target := .fn (.func f) B', args := A' ++ #[Value.func (.yield k.block) #[] #[]] }, w1, f, (A' ++ #[Value.func (.yield k.block) #[] #[]]) ++ B', w1, hrun, ?_, fun f' _ => hF.fn f', ?_, hF.depth, ?_⟩
          · simp only [resolve, eg']
            simp [Deferred.ofValue, Act.eval]
          · simp only [invoke, hcf]
          · have hc := hcall μ1 w1 _ left1.heap hf1 hargs
            have hc' : CallsIn F 0 P f ((A' ++ #[Value.func (.yield k.block) #[] #[]]) ++ B') w1 (CallPost P ρ μ1 S1 w1 v S2) := by
              cases ro with
              | none => cases hF; exact hc
              | some l => obtain ⟨k, _, rfl⟩ := hF; exact hc
            refine hc'.mono ?_
            rintro e w2 ⟨V, μ2, rfl, st2⟩
            have sub2 := st2.grow.sub hf1
            have hk2 := sub2 _ _ hk
            obtain ⟨L, hL, hLR⟩ := getLoop_of st2.heap hr hk2
            obtain ⟨q1, q2, q3, q4, q5, q6, q7⟩ := hLR
            have hend := run_endLoop (P := P) hL (by rw [q1]; exact hbusy)
            have turn := turn_obj (P := P) (S := S2) st2.heap hr rfl hk2 (o' := .loop { r with state := .exhausted }) (O := .loop { L with state := .exhausted }) ⟨_, rfl, rfl, q2, q3, q4, q5, q6, q7⟩ (v := undefV) (V := undef) undef_ok
            have left2 : Left P ρ μ1 S1 w1 fr1 ⟨S2.heap.set l (.loop { r with state := .exhausted }), S2.next⟩ { a with defers := mark ++ a.defers } (putC w2 k.block (.loop { L with state := .exhausted })) μ2 :=
              ⟨left1.fr.mono sub2, turn.heap, st2.grow, st2.ext.trans turn.ext⟩
            have left := left1.then left2 n1 n2
            refine ⟨L.pending, _, hend, ?_⟩
            split
            · rename_i hp
              rcases axOf_some ex with ⟨e1, rfl⟩ | ⟨e1, rfl⟩ | ⟨id, e1, rfl⟩
              · exact ⟨rfl, μ2, left⟩
              · rw [q2, e1] at hp; cases hp
              · rw [q2, e1] at hp; cases hp
            · rename_i c hp
              rcases axOf_some ex with ⟨e1, rfl⟩ | ⟨e1, rfl⟩ | ⟨id, e1, rfl⟩
              · rw [q2, e1] at hp; cases hp
              · obtain rfl : c = .ret := by rw [q2, e1] at hp; exact (Option.some.inj hp).symm
                exact wpIn_ret ⟨rfl, μ2, left⟩
              · obtain rfl : c = .exit id := by rw [q2, e1] at hp; exact (Option.some.inj hp).symm
                exact wpIn_exit ⟨rfl, μ2, left⟩
        · cases hl
      · cases hl
    · cases hl
  · cases hl

theorem CPost.mk {μ : Mu} {S : St} {w : World} {fr : Fr} {a : Act} {x : AX} {e : Exit} (hx : xrel x e) (hh : HRel μ ρ S.heap w) (hr : FRel μ ρ fr a) : CPost P ρ μ S w x fr S e a w :=
  ⟨hx, μ, hr, hh, Grow.refl _ _ _, Ext.refl _ _ _⟩

theorem codeBody_ok [RhoOk P ρ] {ext : T AnsF} (hext : ∀ f g, ext.get f = some g → ExtOk P ρ f g) {drawF : DrawF} (hdraw : DrawFOk P ρ drawF) {callF : CallF} {codeF : CodeF} (hC : CallFOk P ρ callF) (hD : CodeFOk P ρ codeF) : CodeFOk P ρ (codeBody P ext drawF callF codeF) := by
  intro ro c fr S x fr' S' hl
  cases c with
  | skip =>
    simp only [codeBody, Option.some.injEq, Prod.mk.injEq] at hl
    obtain ⟨rfl, rfl, rfl⟩ := hl
    exact ⟨Nat.le_refl _, fun μ w a F hF hh hf hr => wpIn_skip (CPost.mk rfl hh hr)⟩
  | label l =>
    simp only [codeBody, Option.some.injEq, Prod.mk.injEq] at hl
    obtain ⟨rfl, rfl, rfl⟩ := hl
    exact ⟨Nat.le_refl _, fun μ w a F hF hh hf hr => wpIn_label (CPost.mk rfl hh hr)⟩
  | ret =>
    simp only [codeBody, Option.some.injEq, Prod.mk.injEq] at hl
    obtain ⟨rfl, rfl, rfl⟩ := hl
    exact ⟨Nat.le_refl _, fun μ w a F hF hh hf hr => wpIn_ret (CPost.mk rfl hh hr)⟩
  | exit id =>
    simp only [codeBody, Option.some.injEq, Prod.mk.injEq] at hl
    obtain ⟨rfl, rfl, rfl⟩ := hl
    exact ⟨Nat.le_refl _, fun μ w a F hF hh hf hr => wpIn_exit (CPost.mk rfl hh hr)⟩
  | goto l => simp [codeBody] at hl
  | refuse why => simp [codeBody] at hl
  | region id ops draw =>
    cases draw with
    | false =>
      simp only [codeBody] at hl
      split at hl
      · rename_i fr1 S1 e1
        simp only [Option.some.injEq, Prod.mk.injEq] at hl
        obtain ⟨rfl, rfl, rfl⟩ := hl
        obtain ⟨n1, h1⟩ := opsF_ok (callX_ok hext hC) hD (ops := ops) ops.toList 0 _ _ _ _ (by simp) e1
        refine ⟨n1, fun μ w a F hF hh hf hr => wpIn_region ?_⟩
        have := h1 μ w a F hF hh hf hr (CPost P ρ μ S w .normal fr1 S1) (fun a' w' μ' l => ⟨rfl, μ', l⟩)
        rw [Nat.sub_zero] at this
        rw [List.range_eq_range']; exact this
      · cases hl
    | true =>
      simp only [codeBody] at hl
      split at hl
      · rename_i fr1 S1 e1
        simp only [Option.some.injEq, Prod.mk.injEq] at hl
        obtain ⟨rfl, rfl, rfl⟩ := hl
        obtain ⟨n1, h1⟩ := hdraw _ _ (callX_ok hext hC) hD _ _ _ _ _ _ e1
        exact ⟨n1, fun μ w a F hF hh hf hr => h1 μ w a F hF hh hf hr id _ (fun a' w' μ' l => ⟨rfl, μ', l⟩)⟩
      · cases hl
  | seq c1 c2 =>
    simp only [codeBody] at hl
    split at hl
    · rename_i fr1 S1 e1
      obtain ⟨n1, h1⟩ := hD _ _ _ _ _ _ _ e1
      obtain ⟨n2, h2⟩ := hD _ _ _ _ _ _ _ hl
      refine ⟨Nat.le_trans n1 n2, fun μ w a F hF hh hf hr => wpIn_seq (wpIn_mono (h1 μ w a F hF hh (hf.left n2) hr) ?_)⟩
      rintro e a1 w1 ⟨hx1, μ1, l1⟩
      cases hx1
      have sub := l1.grow.sub (hf.left n2)
      exact wpIn_mono (h2 μ1 w1 a1 F (hF.mono sub) l1.heap (hf.right n1 l1.grow) l1.fr) (fun e a2 w2 h => CPost.then l1 n1 n2 h)
    · rename_i fr1 S1 e1
      simp only [Option.some.injEq, Prod.mk.injEq] at hl
      obtain ⟨rfl, rfl, rfl⟩ := hl
      obtain ⟨n1, h1⟩ := hD _ _ _ _ _ _ _ e1
      refine ⟨n1, fun μ w a F hF hh hf hr => wpIn_seq (wpIn_mono (h1 μ w a F hF hh hf hr) ?_)⟩
      rintro e a1 w1 ⟨hx1, μ1, l1⟩
      cases hx1; exact ⟨rfl, μ1, l1⟩
    · rename_i id fr1 S1 e1
      simp only [Option.some.injEq, Prod.mk.injEq] at hl
      obtain ⟨rfl, rfl, rfl⟩ := hl
      obtain ⟨n1, h1⟩ := hD _ _ _ _ _ _ _ e1
      refine ⟨n1, fun μ w a F hF hh hf hr => wpIn_seq (wpIn_mono (h1 μ w a F hF hh hf hr) ?_)⟩
      rintro e a1 w1 ⟨hx1, μ1, l1⟩
      cases hx1; exact ⟨rfl, μ1, l1⟩
    · cases hl
  | cond y t e =>
    simp only [codeBody] at hl
    split at hl
    · rename_i ey
      obtain ⟨n1, h1⟩ := hD _ _ _ _ _ _ _ hl
      refine ⟨n1, fun μ w a F hF hh hf hr => wpIn_cond_true ?_ (h1 μ w a F hF hh hf hr)⟩
      have := hr.ev _ _ ey; simpa only [VRel] using this
    · rename_i ey
      obtain ⟨n1, h1⟩ := hD _ _ _ _ _ _ _ hl
      refine ⟨n1, fun μ w a F hF hh hf hr => wpIn_cond_false ?_ (h1 μ w a F hF hh hf hr)⟩
      have := hr.ev _ _ ey; simpa only [VRel] using this
    · cases hl
  | block id b =>
    simp only [codeBody] at hl
    split at hl
    · rename_i j fr1 S1 e1
      obtain ⟨n1, h1⟩ := hD _ _ _ _ _ _ _ e1
      split at hl
      · rename_i hj
        have hj := Nat.eq_of_beq_eq_true hj
        simp only [Option.some.injEq, Prod.mk.injEq] at hl
        obtain ⟨rfl, rfl, rfl⟩ := hl
        refine ⟨n1, fun μ w a F hF hh hf hr => wpIn_block (wpIn_mono (h1 μ w a F hF hh hf hr) ?_)⟩
        rintro e a1 w1 ⟨hx1, μ1, l1⟩
        cases hx1
        simp only [Exit.inBlock, hj, if_true]; exact ⟨rfl, μ1, l1⟩
      · rename_i hj
        simp only [Option.some.injEq, Prod.mk.injEq] at hl
        obtain ⟨rfl, rfl, rfl⟩ := hl
        refine ⟨n1, fun μ w a F hF hh hf hr => wpIn_block (wpIn_mono (h1 μ w a F hF hh hf hr) ?_)⟩
        rintro e a1 w1 ⟨hx1, μ1, l1⟩
        cases hx1
        have hj' : ¬ j = id := by rintro rfl; rw [Nat.beq_refl] at hj; cases hj
        simp only [Exit.inBlock, hj', if_false]; exact ⟨rfl, μ1, l1⟩
    · rename_i fr1 S1 e1
      simp only [Option.some.injEq, Prod.mk.injEq] at hl
      obtain ⟨rfl, rfl, rfl⟩ := hl
      obtain ⟨n1, h1⟩ := hD _ _ _ _ _ _ _ e1
      refine ⟨n1, fun μ w a F hF hh hf hr => wpIn_block (wpIn_mono (h1 μ w a F hF hh hf hr) ?_)⟩
      rintro e a1 w1 ⟨hx1, μ1, l1⟩
      cases hx1; exact ⟨rfl, μ1, l1⟩
    · rename_i fr1 S1 e1
      simp only [Option.some.injEq, Prod.mk.injEq] at hl
      obtain ⟨rfl, rfl, rfl⟩ := hl
      obtain ⟨n1, h1⟩ := hD _ _ _ _ _ _ _ e1
      refine ⟨n1, fun μ w a F hF hh hf hr => wpIn_block (wpIn_mono (h1 μ w a F hF hh hf hr) ?_)⟩
      rintro e a1 w1 ⟨hx1, μ1, l1⟩
      cases hx1; exact ⟨rfl, μ1, l1⟩
    · cases hl
  | loop b =>
    simp only [codeBody] at hl
    obtain ⟨n1, _, h1⟩ := loopF_ok hD _ _ _ _ _ _ hl
    exact ⟨n1, fun μ w a F hF hh hf hr => wpIn_loop_rounds _ (h1 μ w a F hF hh hf hr)⟩
  | rangeFunc g ps asg body =>
    simp only [codeBody] at hl
    exact rangeF_ok hC hl
  | scope b =>
    simp only [codeBody] at hl
    obtain ⟨n1, h1⟩ := hD _ _ _ _ _ _ _ hl
    refine ⟨n1, fun μ w a F hF hh hf hr => wpIn_scope' ?_ (h1 μ w a F hF hh hf hr)⟩
    rintro l a' w' ⟨hx, _⟩
    cases x <;> cases hx
end
end Go.Eng
/- Engine, part 21: calls, whole; the evaluator is sound. -/
namespace Go.Eng
open Go
section
variable {P : Program} {ρ : Rho}

theorem initT_at : ∀ (vs : List AV) (i : Nat) (t : ET) (j : Nat), i + vs.length ≤ 512 → (initT vs i t).at j = if i ≤ j ∧ j < i + vs.length then (vs[j - i]?).getD undefV else t.at j
  | [], i, t, j, _ => by
    have : (initT [] i t) = t := rfl
    rw [this, if_neg]; simp only [List.length_nil]; omega
  | v :: vs, i, t, j, hl => by
    have : initT (v :: vs) i t = initT vs (i + 1) (t.set i v) := rfl
    simp only [List.length_cons] at hl
    rw [this, initT_at vs (i + 1) _ j (by omega), ET.at_set _ _ _ _ (by omega)]
    by_cases h1 : j = i
    · subst h1
      rw [if_neg (by omega), if_pos rfl, if_pos (by simp)]; simp
    · rw [if_neg h1]
      by_cases h2 : i + 1 ≤ j ∧ j < i + 1 + vs.length
      · rw [if_pos h2, if_pos (by simp; omega)]
        rw [show j - i = (j - (i + 1)) + 1 from by omega, List.getElem?_cons_succ]
      · rw [if_neg h2, if_neg (by simp; omega)]

theorem initT_ok {μ : Mu} {args : List AV} {A : Array Value} {n : Nat} (h : VRels μ ρ args A.toList) (hn : lenL args ≤ n ∧ lenL args ≤ 512) : TRel μ ρ (initT args 0 ET.emp) n (A ++ Array.replicate (n - A.size) undef) := by
  rw [lenL_eq] at hn
  have hl : A.size = args.length := by have := h.length; simpa using this
  refine ⟨by simp; omega, fun i hi => ?_⟩
  rw [initT_at _ _ _ _ (by omega)]
  by_cases h1 : i < args.length
  · rw [if_pos (by omega), Nat.sub_zero]
    obtain ⟨V, hV, r⟩ := h.get (i := i) (v := args[i]) (by simp [h1])
    refine ⟨V, ?_, by simp [h1]; exact r⟩
    rw [Array.getElem?_append_left (by omega)]; simpa using hV
  · rw [if_neg (by omega), ET.at_emp]
    exact ⟨undef, by rw [Array.getElem?_append_right (by omega), Array.getElem?_replicate, if_pos (by omega)], undef_ok⟩

theorem resL_ok {μ : Mu} {fr : Fr} {a : Act} {S : T AObj} {w : World} (hh : HRel μ ρ S w) (hr : FRel μ ρ fr a) : ∀ {rs : List ResultVar} {vs : List AV}, resL P fr S rs = some vs →
    ∃ Vs, (rs.mapM (fun | .tmp t => pure (a.tmps.getD t undef) | .cell ad t => do loadVar t (← asAddr (a.tmps.getD ad undef)) : ResultVar → Sem Value)).run P w = .ok Vs w ∧ VRels μ ρ vs Vs
  | [], vs, h => by
    have : vs = [] := by simpa [resL] using h.symm
    subst this
    exact ⟨[], by simp, VRels.nil⟩
  | r :: rs, vs, h => by
    cases r with
    | tmp t =>
      have h' : (match aev fr (.tmp t), resL P fr S rs with | some v, some vs => some (v :: vs) | _, _ => none) = some vs := h
      split at h'
      · rename_i v vs' ev1 ev2
        cases h'
        obtain ⟨Vs, e, r⟩ := resL_ok hh hr ev2
        refine ⟨a.tmps.getD t undef :: Vs, ?_, VRels.cons (hr.ev _ _ ev1) r⟩
        simp only [List.mapM_cons, Sem.run_bind, Sem.run_pure, Result.andThen_ok, e]
      · cases h'
    | cell ad t =>
      have h' : (match aev fr (.tmp ad), resL P fr S rs with
        | some u, some vs => (match aload P S t u with | some v => some (v :: vs) | none => none)
        | _, _ => none) = some vs := h
      split at h'
      · rename_i u vs' ev1 ev2
        split at h'
        · rename_i v eld
          cases h'
          obtain ⟨Vs, e, r⟩ := resL_ok hh hr ev2
          have hu := hr.ev _ _ ev1
          obtain ⟨V, hV, rV⟩ := run_aload (P := P) hh eld hu
          refine ⟨V :: Vs, ?_, VRels.cons rV r⟩
          have hptr : ∃ adr, a.tmps.getD ad undef = .pointer (some adr) := by
            unfold aload at eld
            split at eld
            · obtain ⟨a', e', k, _, rfl⟩ := (by simpa only [VRel] using hu : _)
              exact ⟨_, e'⟩
            · cases eld
          obtain ⟨adr, eadr⟩ := hptr
          have eadr' : a.eval (.tmp ad) = .pointer (some adr) := eadr
          rw [eadr'] at hV
          have hV' : (loadVar t adr).run P w = .ok V w := by
            simpa [Instr.loadAt, Instr.sureAddr] using hV
          have hA : (asAddr (a.tmps.getD ad undef)).run P w = .ok adr w := by rw [eadr]; rfl
          simp only [List.mapM_cons, Sem.run_bind, hA, Sem.run_pure, Result.andThen_ok, hV', e]
        · cases h'
      · cases h'

theorem resF_ok [RhoOk P ρ] {μ : Mu} {fn : Func} {fr : Fr} {a : Act} {S : St} {w : World} (hh : HRel μ ρ S.heap w) (hr : FRel μ ρ fr a) {v : AV} (h : resF P fn fr S = some v) : ∃ V, (results fn a.tmps).run P w = .ok V w ∧ VRel μ ρ v V := by
  unfold resF at h
  have main : ∀ vs, resL P fr S.heap fn.results.toList = some vs → ∃ Vs : Array Value, (fn.results.mapM (fun | .tmp t => pure (a.tmps.getD t undef) | .cell ad t => do loadVar t (← asAddr (a.tmps.getD ad undef)) : ResultVar → Sem Value)).run P w = .ok Vs w ∧ VRels μ ρ vs Vs.toList := by
    intro vs e
    obtain ⟨Vs, e1, r⟩ := resL_ok (P := P) hh hr e
    refine ⟨Vs.toArray, ?_, by simpa using r⟩
    rw [Array.mapM_eq_mapM_toList]
    simp only [Sem.run_map, e1, Result.andThen_ok]
  split at h
  · rename_i u e
    cases h
    obtain ⟨Vs, e1, r⟩ := main _ e
    obtain ⟨V, Ws, e2, r1, r2⟩ := r.cons_inv
    have := r2.nil_inv; subst this
    have hVs : Vs = #[V] := by apply Array.ext'; simpa using e2
    subst hVs
    exact ⟨V, by simp only [results, Sem.run_bind]; exact congrArg (fun r : Result (Array Value) => r.andThen fun A w' => (pure (if h : A.size = 1 then A[0] else Value.tuple A) : Sem Value).run P w') e1, r1⟩
  · rename_i vs hne e
    cases h
    obtain ⟨Vs, e1, r⟩ := main _ e
    have hsz : Vs.size ≠ 1 := by
      intro h1
      have := r.length
      have hl : vs.length = 1 := by simp at this; omega
      match vs, hl with
      | [v], _ => exact hne v rfl
    refine ⟨.tuple Vs, ?_, by simp only [VRel]; exact ⟨_, rfl, r⟩⟩
    simp only [results, Sem.run_bind]
    refine (congrArg (fun r : Result (Array Value) => r.andThen fun A w' => (pure (if h : A.size = 1 then A[0] else Value.tuple A) : Sem Value).run P w') e1).trans ?_
    simp only [Result.andThen_ok, Sem.run_pure]
    rw [dif_neg hsz]
  · cases h

theorem lateF_ok [RhoOk P ρ] {tab : T Func} (hT : TabOk P tab) {codeF : CodeF} (hD : CodeFOk P ρ codeF) {f : FuncId} {args : List AV} {S S' : St} (h : lateF P tab codeF f args S = some S') : S.next ≤ S'.next ∧ (∀ A w, (callFunc f A).run P w = .ok (.enter f A) w) ∧
    ∀ μ w (A : Array Value) u, HRel μ ρ S.heap w → Fresh μ S.next S'.next → VRels μ ρ args A.toList → CallsDIn Fence.wide 0 P f A u w (fun e u' w' => u' = u ∧ ∃ v, e = .returned v ∧ ∃ μ', HRel μ' ρ S'.heap w' ∧ Grow μ S.next S'.next μ' ∧ Ext μ S.heap w μ' S'.heap w') := by
  unfold lateF at h
  split at h
  · rename_i fn etab
    obtain ⟨hfn, hcf⟩ := hT _ _ etab
    split at h
    · rename_i c eb
      split at h
      · rename_i hle
        have hle := lim_le hle
        have main : ∀ x fr S1, codeF none c ⟨initT args 0 ET.emp, fn.ntmps, []⟩ S = some (x, fr, S1) → (x = .normal ∨ x = .ret) → (match fr.defers, resF P fn fr S1 with | [], some _ => some S1 | _, _ => none) = some S' → S.next ≤ S'.next ∧ (∀ A w, (callFunc f A).run P w = .ok (.enter f A) w) ∧
            ∀ μ w (A : Array Value) u, HRel μ ρ S.heap w → Fresh μ S.next S'.next → VRels μ ρ args A.toList → CallsDIn Fence.wide 0 P f A u w (fun e u' w' => u' = u ∧ ∃ v, e = .returned v ∧ ∃ μ', HRel μ' ρ S'.heap w' ∧ Grow μ S.next S'.next μ' ∧ Ext μ S.heap w μ' S'.heap w') := by
          intro x fr S1 e1 hx h2
          split at h2
          · rename_i v ed ev
            cases h2
            obtain ⟨n1, h1⟩ := hD _ _ _ _ _ _ _ e1
            refine ⟨n1, hcf, ?_⟩
            intro μ w A u hh hf hA
            have hfr : FRel μ ρ ⟨initT args 0 ET.emp, fn.ntmps, []⟩ { tmps := A ++ Array.replicate (fn.ntmps - A.size) undef, defers := [] } := ⟨initT_ok hA hle, rfl⟩
            have hw := h1 μ w _ Fence.wide rfl hh hf hfr
            have := callsDIn_of_wp (F := Fence.wide) (n := 0) (u := u) (R := fun e w' => ∃ v, e = .returned v ∧ ∃ μ', HRel μ' ρ S'.heap w' ∧ Grow μ S.next S'.next μ' ∧ Ext μ S.heap w μ' S'.heap w') hfn eb trivial (wpIn_mono hw ?_)
            · exact this.mono (fun e u' w' h => h)
            · rintro e a' w' ⟨hxe, μ', l⟩
              have hdef : a'.defers = [] := by have := l.fr.defers; rw [ed] at this; exact this
              obtain ⟨V, hV, _⟩ := resF_ok l.heap l.fr ev
              rcases hx with rfl | rfl <;> (cases hxe; exact ⟨hdef, V, hV, V, rfl, μ', l.heap, l.grow, l.ext⟩)
          · cases h2
        split at h
        · rename_i fr S1 e1; exact main _ _ _ e1 (.inl rfl) h
        · rename_i fr S1 e1; exact main _ _ _ e1 (.inr rfl) h
        · cases h
      · cases h
    · cases h
  · cases h

theorem leavesInM_mono {fn : Func} {tmps : Array Value} {R R' : Ending → World → Prop} (hR : ∀ e w, R e w → R' e w) : ∀ (D : List Deferred) (u : FrameMode) (w : World), LeavesInM Fence.wide 0 P fn tmps R D u w → LeavesInM Fence.wide 0 P fn tmps R' D u w := by
  intro D
  induction D with
  | nil =>
    intro u w h
    cases u with
    | run => exact h
    | returning => obtain ⟨v, hv, r⟩ := h; exact ⟨v, hv, hR _ _ r⟩
    | panicking c => exact hR _ _ h
  | cons d D ih =>
    intro u w h
    obtain ⟨hu, h⟩ := h
    refine ⟨hu, ?_⟩
    rcases h with ⟨r, w', ht, htk, hl⟩ | ⟨hn, fv, cap, f, args, ht, hi, hld, hc⟩
    · exact .inl ⟨r, w', ht, htk, ih _ _ hl⟩
    · refine .inr ⟨hn, fv, cap, f, args, ht, hi, hld, hc.mono ?_⟩
      intro e u' w' he
      cases e with
      | returned v => exact ih _ _ he
      | panicked c => exact ih _ _ he
      | outgrown => exact hR _ _ he

theorem leaveF_ok [RhoOk P ρ] {tab : T Func} (hT : TabOk P tab) {codeF : CodeF} (hD : CodeFOk P ρ codeF) {fn : Func} {fr : Fr} : ∀ (ds : List ADef) (S S' : St) (v : AV), leaveF P tab codeF fn fr ds S = some (v, S') → S.next ≤ S'.next ∧
    ∀ μ w a D, HRel μ ρ S.heap w → Fresh μ S.next S'.next → FRel μ ρ fr a → DRels μ ρ ds D → LeavesInM Fence.wide 0 P fn a.tmps (CallPost P ρ μ S w v S') D .returning w
  | [], S, S', v, h => by
    have h' : (match resF P fn fr S with | some v => some (v, S) | none => none) = some (v, S') := h
    split at h'
    · rename_i u eu
      simp only [Option.some.injEq, Prod.mk.injEq] at h'
      obtain ⟨rfl, rfl⟩ := h'
      refine ⟨Nat.le_refl _, ?_⟩
      intro μ w a D hh hf hr hd
      have : D = [] := hd
      subst this
      obtain ⟨V, hV, r⟩ := resF_ok hh hr eu
      exact ⟨V, hV, V, μ, rfl, Stepped.id hh r⟩
    · cases h'
  | .mark b :: ds, S, S', v, h => by
    have h' : (match S.heap.get b with
        | some (.dfr false) => leaveF P tab codeF fn fr ds ⟨S.heap.set b (.dfr true), S.next⟩
        | _ => none) = some (v, S') := h
    split at h'
    · rename_i hb
      obtain ⟨n1, h1⟩ := leaveF_ok hT hD ds _ _ _ h'
      refine ⟨n1, ?_⟩
      intro μ w a D hh hf hr hd
      obtain ⟨k, D', hk, rfl, hd'⟩ := hd
      obtain ⟨k', hk', hO⟩ := hh.obj b _ hb rfl
      rw [hk] at hk'; cases hk'
      have hO' : w.heap[k.block]? = some (.deferred (some [])) := hO
      have turn := turn_obj (P := P) (S := S) hh hb rfl hk (o' := .dfr true) (O := .deferred none) rfl (v := undefV) (V := undef) undef_ok
      refine ⟨by simp, .inl ⟨k.block, _, rfl, run_takeDeferred hO', ?_⟩⟩
      have := h1 μ _ a D' turn.heap hf hr hd'
      refine leavesInM_mono ?_ _ _ _ this
      rintro e w' ⟨V, μ', rfl, st⟩
      exact ⟨V, μ', rfl, st.val, st.heap, st.grow, turn.ext.trans st.ext⟩
    · cases h'
  | .call f args :: ds, S, S', v, h => by
    have h' : (match lateF P tab codeF f args S with | some S1 => leaveF P tab codeF fn fr ds S1 | none => none) = some (v, S') := h
    split at h'
    · rename_i S1 el
      obtain ⟨n0, hcf, h0⟩ := lateF_ok hT hD el
      obtain ⟨n1, h1⟩ := leaveF_ok hT hD ds _ _ _ h'
      refine ⟨Nat.le_trans n0 n1, ?_⟩
      intro μ w a D hh hf hr hd
      obtain ⟨d, cap, D', rfl, ht, hv, hd'⟩ := hd
      refine ⟨by simp, .inr ⟨(by intro hc; cases hc), .func f, cap, f, d.args ++ cap, ht, ?_, fun _ _ => trivial, ?_⟩⟩
      · rw [ht]; simp only [invoke]; exact hcf _ _
      · refine (h0 μ w _ .returning hh (hf.left n1) hv).mono ?_
        rintro e u' w' ⟨rfl, V, rfl, μ', hh', hg', he'⟩
        have sub := hg'.sub (hf.left n1)
        have := h1 μ' w' a D' hh' (hf.right n0 hg') (hr.mono sub) (hd'.mono sub)
        refine leavesInM_mono ?_ _ _ _ this
        rintro e w'' ⟨V', μ'', rfl, st⟩
        exact ⟨V', μ'', rfl, st.val, st.heap, hg'.trans st.grow n0 n1, he'.trans st.ext⟩
    · cases h'

theorem callPlain_ok [RhoOk P ρ] {tab : T Func} (hT : TabOk P tab) {codeF : CodeF} (hD : CodeFOk P ρ codeF) : CallFOk P ρ (callPlain P tab codeF) := by
  intro f args S v S' hl
  unfold callPlain at hl
  split at hl
  · rename_i fn etab
    obtain ⟨hfn, hcf⟩ := hT _ _ etab
    split at hl
    · rename_i c eb
      split at hl
      · rename_i hle
        have hle := lim_le hle
        have main : ∀ x fr S1, codeF none c ⟨initT args 0 ET.emp, fn.ntmps, []⟩ S = some (x, fr, S1) → (x = .normal ∨ x = .ret) → leaveF P tab codeF fn fr fr.defers S1 = some (v, S') → S.next ≤ S'.next ∧ (∀ A w, (callFunc f A).run P w = .ok (.enter f A) w) ∧
            ∀ μ w (A : Array Value), HRel μ ρ S.heap w → Fresh μ S.next S'.next → VRels μ ρ args A.toList → CallsIn Fence.wide 0 P f A w (CallPost P ρ μ S w v S') := by
          intro x fr S1 e1 hx h2
          obtain ⟨n1, h1⟩ := hD _ _ _ _ _ _ _ e1
          obtain ⟨n2, h3⟩ := leaveF_ok hT hD _ _ _ _ h2
          refine ⟨Nat.le_trans n1 n2, hcf, ?_⟩
          intro μ w A hh hf hA
          have hfr : FRel μ ρ ⟨initT args 0 ET.emp, fn.ntmps, []⟩ { tmps := A ++ Array.replicate (fn.ntmps - A.size) undef, defers := [] } := ⟨initT_ok hA hle, rfl⟩
          have hw := h1 μ w _ Fence.wide rfl hh (hf.left n2) hfr
          refine callsIn_of_wp_marks hfn eb trivial (wpIn_mono hw ?_)
          rintro e a' w' ⟨hxe, μ', l⟩
          have := h3 μ' w' a' a'.defers l.heap (hf.right n1 l.grow) l.fr l.fr.defers
          have this' := leavesInM_mono (R' := CallPost P ρ μ S w v S') (by
            rintro e w'' ⟨V, μ'', rfl, st⟩
            exact ⟨V, μ'', rfl, st.val, st.heap, l.grow.trans st.grow n1 n2, l.ext.trans st.ext⟩) _ _ _ this
          rcases hx with rfl | rfl <;> (cases hxe; exact this')
        split at hl
        · rename_i fr S1 e1; exact main _ _ _ e1 (.inl rfl) hl
        · rename_i fr S1 e1; exact main _ _ _ e1 (.inr rfl) hl
        · cases hl
      · cases hl
    · cases hl
  · cases hl

theorem callBody_ok [RhoOk P ρ] {tb : Tabs} (hT : TabsOk P ρ tb) {codeF : CodeF} (hD : CodeFOk P ρ codeF) : CallFOk P ρ (callBody P tb codeF) := by
  have hP := callPlain_ok (ρ := ρ) hT.fns hD
  intro f args S v S' hl
  unfold callBody at hl
  split at hl
  · rename_i g eg
    split at hl
    · rename_i r er
      obtain rfl := Option.some.inj hl
      exact hT.sum f g eg f args S v S' (by simpa using er)
    · exact hP f args S v S' hl
  · split at hl
    · split at hl
      · rename_i r er
        obtain rfl := Option.some.inj hl
        exact twoF_ok hP f args S v S' er
      · exact hP f args S v S' hl
    · split at hl
      · split at hl
        · rename_i r er
          obtain rfl := Option.some.inj hl
          exact freeF_ok hP f args S v S' er
        · exact hP f args S v S' hl
      · exact hP f args S v S' hl

/-- THE EVALUATOR IS SOUND. -/
theorem evalN_ok [RhoOk P ρ] {tb : Tabs} (hT : TabsOk P ρ tb) {drawF : DrawF} (hd : DrawFOk P ρ drawF) : ∀ n, CodeFOk P ρ (evalN P tb drawF n).1 ∧ CallFOk P ρ (evalN P tb drawF n).2
  | 0 => ⟨fun _ _ _ _ _ _ _ h => (by cases h), fun _ _ _ _ _ h => (by cases h)⟩
  | n + 1 => by
    obtain ⟨h1, h2⟩ := evalN_ok hT hd n
    exact ⟨codeBody_ok hT.ext hd h2 h1, callBody_ok hT h1⟩
end
end Go.Eng
