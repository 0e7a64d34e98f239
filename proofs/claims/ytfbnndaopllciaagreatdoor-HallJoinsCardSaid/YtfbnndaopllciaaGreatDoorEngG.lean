/- An evaluator of Go code over abstract values and memory, proved sound, part G: the second evaluator, its operations and regions, is the first one. No condition but those that each theorem names. -/
import Derived.Test.YtfbnndaopllciaaGreatDoorEngF
/- Engine, part 28: the second evaluator is the first one: calls, rounds, regions. -/
namespace Go.Eng
open Go
set_option linter.unusedVariables false

noncomputable def toKC (o : Option (AX × Fr × St)) (kn : KN) (ke : KE) : KR := match o with | some p => axK p.1 p.2.1.tmps ⟨p.2.2.heap, p.2.2.next, p.2.1.defers⟩ kn ke | none => none
structure LvOk (lv : Lv) (codeF : CodeF) (callF : CallF) : Prop where
  call : ∀ f args h n k, lv.call f args h n k = toKE (callF f args ⟨h, n⟩) k
  code : ∀ ntm c ro e m kn ke, lv.code ntm c ro e m kn ke = toKC (codeF ro c ⟨e, ntm, m.d⟩ ⟨m.h, m.n⟩) kn ke
  ntm : ∀ ro c fr S x fr' S', codeF ro c fr S = some (x, fr', S') → fr'.ntm = fr.ntm

section
variable {P : Program} {ext : T AnsF} {lv : Lv} {codeF : CodeF} {callF : CallF}
theorem callXK_ok (hl : LvOk lv codeF callF) (f : FuncId) (args : List AV) (h : T AObj) (n : Nat) (k : AV → T AObj → Nat → KR) : callXK ext lv f args h n k = toKE (callX ext callF f args ⟨h, n⟩) k := by
  unfold callXK callX
  cases ext.get f with
  | none => exact hl.call f args h n k
  | some g =>
    simp only []
    cases g args ⟨h, n⟩ with
    | none => rfl
    | some p => obtain ⟨v, ⟨h', n'⟩⟩ := p; rfl

theorem finRound_ok (l : Nat) (x : AX) (fr : Fr) (S : St) (k : AV → T AObj → Nat → KR) :
    axK x fr.tmps ⟨S.heap, S.next, fr.defers⟩ (fun _ m3 => finRound l true none m3 k) (fun x _ m3 => finRound l (isNormal x) (jumpOf x) m3 k) =
      toKE (match S.heap.get l with
        | some (.loop r3) => some (.bool (isNormal x), ⟨S.heap.set l (.loop { r3 with state := (match isNormal x with | true => .ready | false => .done), pending := jumpOf x }), S.next⟩)
        | _ => none) k := by
  have e : axK x fr.tmps ⟨S.heap, S.next, fr.defers⟩ (fun _ m3 => finRound l true none m3 k) (fun x _ m3 => finRound l (isNormal x) (jumpOf x) m3 k) = finRound l (isNormal x) (jumpOf x) ⟨S.heap, S.next, fr.defers⟩ k := by
    cases x <;> rfl
  rw [e]
  show (match S.heap.get l with
    | some (.loop ⟨_, _, t, ntm, ps, a, b, df⟩) => k (.bool (isNormal x)) (S.heap.set l (.loop ⟨(match isNormal x with | true => .ready | false => .done), jumpOf x, t, ntm, ps, a, b, df⟩)) S.next
    | _ => none) = _
  cases S.heap.get l with
  | none => rfl
  | some o => cases o <;> rfl

theorem roundK_ok (hl : LvOk lv codeF callF) (l : Nat) (vs : List AV) (h : T AObj) (n : Nat) (k : AV → T AObj → Nat → KR) : roundK lv l vs h n k = toKE (roundF codeF l vs ⟨h, n⟩) k := by
  unfold roundK roundF
  simp only []
  cases h.get l with
  | none => rfl
  | some o =>
    cases o with
    | loop r =>
      obtain ⟨st, pe, tmps, ntm, ps, asg, body, df⟩ := r
      cases st with
      | ready =>
        simp only []
        cases putArgs ps.toList ntm vs tmps with
        | none => rfl
        | some t =>
          simp only [hl.code]
          cases e1 : codeF (some l) asg ⟨t, ntm, []⟩ ⟨h, n⟩ with
          | none => rfl
          | some p =>
            obtain ⟨x, fr1, S1⟩ := p
            cases x with
            | ret => rfl
            | exit id => rfl
            | normal =>
              simp only [toKC]
              show (match S1.heap.get l with
                | some (.loop ⟨.ready, pe, t1, ntm1, ps1, a1, b1, df1⟩) => toKC (codeF (some l) body ⟨fr1.tmps, ntm, fr1.defers⟩ ⟨S1.heap.set l (.loop ⟨.busy, pe, t1, ntm1, ps1, a1, b1, df1⟩), S1.next⟩)
                    (fun _ m3 => finRound l true none m3 k) (fun x _ m3 => finRound l (isNormal x) (jumpOf x) m3 k)
                | _ => none) = _
              have en := hl.ntm _ _ _ _ _ _ _ e1
              have en : fr1.ntm = ntm := en
              cases S1.heap.get l with
              | none => rfl
              | some o1 =>
                cases o1 with
                | loop r1 =>
                  obtain ⟨st1, pe1, t1, ntm1, ps1, a1, b1, df1⟩ := r1
                  cases st1 with
                  | ready =>
                    simp only []
                    obtain ⟨ft, fn, fd⟩ := fr1
                    simp only at en; subst en
                    cases codeF (some l) body ⟨ft, fn, fd⟩ ⟨S1.heap.set l (.loop ⟨.busy, pe1, t1, ntm1, ps1, a1, b1, df1⟩), S1.next⟩ with
                    | none => rfl
                    | some p3 =>
                      obtain ⟨x3, fr3, S3⟩ := p3
                      simp only [toKC]
                      rw [finRound_ok]
                      cases S3.heap.get l with
                      | none => rfl
                      | some o3 => cases o3 <;> rfl
                  | _ => rfl
                | _ => rfl
      | _ => rfl
    | _ => rfl

/-- an operation that may do anything -/
noncomputable def toKL (o : Option (AV × Option ADef × St)) (d : List ADef) (k : AV → KM → KR) : KR := match o with | some p => k p.1 ⟨p.2.2.heap, p.2.2.next, consO p.2.1 d⟩ | none => none
theorem callV_ok (hl : LvOk lv codeF callF) (g : AV) (vs : List AV) (h : T AObj) (n : Nat) (d : List ADef) (k : AV → KM → KR) :
    callV ext lv g vs ⟨h, n, d⟩ k = toKL (match g with
      | .fn (.func f) A B => (match callX ext callF f (appL A (appL vs B)) ⟨h, n⟩ with | some p => some (p.1, none, p.2) | none => none)
      | .fn (.yield l) [] [] => (match roundF codeF l vs ⟨h, n⟩ with | some p => some (p.1, none, p.2) | none => none)
      | _ => none) d k := by
  unfold callV
  split
  · rename_i f A B
    show callXK ext lv f (appL A (appL vs B)) h n (fun v h' n' => k v ⟨h', n', d⟩) = _
    rw [callXK_ok hl]
    simp only []
    cases callX ext callF f (appL A (appL vs B)) ⟨h, n⟩ <;> rfl
  · rename_i l
    show roundK lv l vs h n (fun v h' n' => k v ⟨h', n', d⟩) = _
    rw [roundK_ok hl]
    simp only []
    cases roundF codeF l vs ⟨h, n⟩ <;> rfl
  · rename_i h1 h2
    split
    · exact absurd rfl (h1 _ _ _)
    · exact absurd rfl (h2 _)
    · rfl

variable {cx : Operand → KX} {evf : ET → Operand → Option AV}
theorem cLoud_ok (hl : LvOk lv codeF callF) (hx : CxOk cx evf) (o : Oper) (ro : Option Nat) (e : ET) (h : T AObj) (n : Nat) (d : List ADef) (k : AV → KM → KR) :
    (cLoud P ext cx evf o.op).go lv ro e ⟨h, n, d⟩ k = toKL (stepE P (callX ext callF) codeF ro o (evf e) ⟨h, n⟩) d k := by
  have g1 : ∀ x e f, (cx x).ev e f = toK (evf e x) f := fun x e f => hx x e f
  have g2 : ∀ l e f, (cXs cx l).ev e f = toKs (evs (evf e) l) f := fun l e f => cXs_ok hx l e f
  have other : ∀ op, (effOp P cx evf op).go lv ro e ⟨h, n, d⟩ k = toKL (match ocls P op with
      | .eff => (match aE P (evf e) op ⟨h, n⟩ with | some p => some (p.1, none, p.2) | none => none)
      | _ => none) d k := by
    intro op
    unfold effOp
    cases ocls P op with
    | eff =>
      show (cEf P cx evf op).go e h n (fun v h' n' => k v ⟨h', n', d⟩) = _
      rw [cEf_ok]
      cases aE P (evf e) op ⟨h, n⟩ <;> rfl
    | _ => rfl
  obtain ⟨dst, op, type, pos, after, guard⟩ := o
  cases op
  case call c =>
    obtain ⟨cal, args, ts⟩ := c
    cases cal
    case value g =>
      show (cx g).ev e (fun gv => (cXs cx args.toList).ev e (fun vs => callV ext lv gv vs ⟨h, n, d⟩ k)) = toKL (match evf e g, evs (evf e) args.toList with
        | some (.fn (.func f) A B), some vs => (match callX ext callF f (appL A (appL vs B)) ⟨h, n⟩ with | some p => some (p.1, none, p.2) | none => none)
        | some (.fn (.yield l) [] []), some vs => (match roundF codeF l vs ⟨h, n⟩ with | some p => some (p.1, none, p.2) | none => none)
        | _, _ => none) d k
      rw [g1]
      cases evf e g with
      | none => rfl
      | some gv =>
        show (cXs cx args.toList).ev e (fun vs => callV ext lv gv vs ⟨h, n, d⟩ k) = _
        rw [g2]
        cases evs (evf e) args.toList with
        | none =>
          cases gv with
          | fn f A B => cases f <;> first | rfl | (cases A <;> first | rfl | (cases B <;> rfl))
          | _ => rfl
        | some vs =>
          show callV ext lv gv vs ⟨h, n, d⟩ k = _
          rw [callV_ok hl]
          cases gv with
          | fn f A B => cases f <;> first | rfl | (cases A <;> first | rfl | (cases B <;> rfl))
          | _ => rfl
    all_goals (unfold cLoud stepE; exact other _)
  case defer c =>
    obtain ⟨cal, args, ts⟩ := c
    cases cal
    case value g =>
      cases ro with
      | some r => rfl
      | none =>
        show (cx g).ev e (fun gv => (cXs cx args.toList).go e (fun vs => match gv with
        | .fn (.func f) A B => k undefV ⟨h, n, .call f (appL A (appL vs B)) :: d⟩
        | _ => none)) = toKL (match (none : Option Nat), evf e g, evs (evf e) args.toList with
      | none, some (.fn (.func f) A B), some vs => some (undefV, some (.call f (appL A (appL vs B))), ⟨h, n⟩)
      | _, _, _ => none) d k
        rw [g1]
        cases evf e g with
        | none => rfl
        | some gv =>
          show (cXs cx args.toList).ev e _ = _
          rw [g2]
          cases evs (evf e) args.toList with
          | none =>
            cases gv with
            | fn f A B => cases f <;> rfl
            | _ => rfl
          | some vs =>
            cases gv with
            | fn f A B => cases f <;> rfl
            | _ => rfl
    all_goals (unfold cLoud stepE; exact other _)
  all_goals (unfold cLoud stepE; exact other _)
end
end Go.Eng
/- Engine, part 29: the second evaluator is the first one: regions. -/
namespace Go.Eng
open Go
set_option linter.unusedVariables false

theorem evIn_eq (e : ET) (ntm : Nat) (d : List ADef) : aev ⟨e, ntm, d⟩ = evIn ntm e := by
  funext x; cases x <;> rfl
theorem evMs_eq (e : ET) (ntm : Nat) (d : List ADef) (mask : List Nat) : aevM ⟨e, ntm, d⟩ mask = evMs ntm mask e := by
  funext x; cases x <;> rfl

/-! putting -/
noncomputable def toKF (o : Option Fr) (k : ET → KR) : KR := match o with | some fr => k fr.tmps | none => none
theorem cPut_ok (ntm : Nat) (dst : Option Tmp) (e : ET) (d : List ADef) (v : AV) (k : ET → KR) : (cPut ntm dst).go e v k = toKF (aput ⟨e, ntm, d⟩ dst v) k := by
  cases dst with
  | none => rfl
  | some t =>
    show (match Nat.ble (Nat.succ t) (lim ntm) with | true => SU.rec (motive := fun _ => KPut) (fun f => ⟨fun e v k => k (f e v)⟩) (sp t) | false => ⟨fun _ _ _ => none⟩ : KPut).go e v k =
      toKF (match Nat.ble (Nat.succ t) (lim ntm) with | true => some ⟨e.set t v, ntm, d⟩ | false => none) k
    cases Nat.ble (Nat.succ t) (lim ntm) with
    | false => rfl
    | true =>
      show k ((sp t).go e v) = k (e.set t v)
      rw [set_eq]
theorem aput_same {fr fr' : Fr} {dst : Option Tmp} {v : AV} (h : aput fr dst v = some fr') : fr'.ntm = fr.ntm ∧ fr'.defers = fr.defers := by
  unfold aput at h
  split at h
  · cases h; exact ⟨rfl, rfl⟩
  · split at h
    · cases h; exact ⟨rfl, rfl⟩
    · cases h

noncomputable def toKS (o : Option (AV × Fr × St)) (k : AV → KM → KR) : KR := match o with | some p => k p.1 ⟨p.2.2.heap, p.2.2.next, p.2.1.defers⟩ | none => none

theorem stepF_plain {P : Program} {callF : CallF} {codeF : CodeF} {ro : Option Nat} {o : Oper} {fr : Fr} {S : St} (h1 : ∀ g a t, o.op ≠ .call ⟨.value g, a, t⟩) (h2 : ∀ g a t, o.op ≠ .defer ⟨.value g, a, t⟩) :
    stepF P callF codeF ro o fr S = (match aplain P o fr S with | some p => some (p.1, fr, p.2) | none => none) := by
  unfold stepF
  split
  · rename_i e; exact absurd e (h1 _ _ _)
  · rename_i e; exact absurd e (h2 _ _ _)
  · rfl
theorem stepF_loud {P : Program} {callF : CallF} {codeF : CodeF} {ro : Option Nat} {o : Oper} {fr : Fr} {S : St} (h1 : ocls P o.op ≠ .pure) (h2 : ocls P o.op ≠ .read) (h3 : ocls P o.op ≠ .alloc) :
    stepF P callF codeF ro o fr S = (match stepE P callF codeF ro o (aev fr) S with | some p => some (p.1, ⟨fr.tmps, fr.ntm, consO p.2.1 fr.defers⟩, p.2.2) | none => none) := by
  have other : (match aplain P o fr S with | some p => some (p.1, fr, p.2) | none => none) = (match (match ocls P o.op with
      | .eff => (match aE P (aev fr) o.op S with | some p => some (p.1, none, p.2) | none => none)
      | _ => none : Option (AV × Option ADef × St)) with | some p => some (p.1, ⟨fr.tmps, fr.ntm, consO p.2.1 fr.defers⟩, p.2.2) | none => none) := by
    unfold aplain
    cases hc : ocls P o.op with
    | pure => exact absurd hc h1
    | read => exact absurd hc h2
    | alloc => exact absurd hc h3
    | eff => simp only []; cases aE P (aev fr) o.op S <;> rfl
    | _ => rfl
  obtain ⟨dst, op, type, pos, after, guard⟩ := o
  cases op
  case call c =>
    obtain ⟨cal, args, ts⟩ := c
    cases cal
    case value g =>
      show (match aev fr g, evs (aev fr) args.toList with
        | some (.fn (.func f) A B), some vs => (match callF f (appL A (appL vs B)) S with | some p => some (p.1, fr, p.2) | none => none)
        | some (.fn (.yield l) [] []), some vs => (match roundF codeF l vs S with | some p => some (p.1, fr, p.2) | none => none)
        | _, _ => none) = (match (match aev fr g, evs (aev fr) args.toList with
        | some (.fn (.func f) A B), some vs => (match callF f (appL A (appL vs B)) S with | some p => some (p.1, none, p.2) | none => none)
        | some (.fn (.yield l) [] []), some vs => (match roundF codeF l vs S with | some p => some (p.1, none, p.2) | none => none)
        | _, _ => none : Option (AV × Option ADef × St)) with | some p => some (p.1, ⟨fr.tmps, fr.ntm, consO p.2.1 fr.defers⟩, p.2.2) | none => none)
      cases aev fr g with
      | none => rfl
      | some gv =>
        cases evs (aev fr) args.toList with
        | none =>
          cases gv with
          | fn f A B => cases f <;> first | rfl | (cases A <;> first | rfl | (cases B <;> rfl))
          | _ => rfl
        | some vs =>
          cases gv with
          | fn f A B =>
            cases f with
            | func f => simp only []; cases callF f (appL A (appL vs B)) S <;> rfl
            | yield l =>
              cases A with
              | nil =>
                cases B with
                | nil => simp only []; cases roundF codeF l vs S <;> rfl
                | cons b B => rfl
              | cons a A => rfl
            | _ => rfl
          | _ => rfl
    all_goals exact other
  case defer c =>
    obtain ⟨cal, args, ts⟩ := c
    cases cal
    case value g =>
      cases ro with
      | some r =>
        show (match some r, aev fr g, evs (aev fr) args.toList with
          | none, some (.fn (.func f) A B), some vs => some (undefV, (⟨fr.tmps, fr.ntm, .call f (appL A (appL vs B)) :: fr.defers⟩ : Fr), S)
          | _, _, _ => none) = _
        rfl
      | none =>
        show (match (none : Option Nat), aev fr g, evs (aev fr) args.toList with
          | none, some (.fn (.func f) A B), some vs => some (undefV, (⟨fr.tmps, fr.ntm, .call f (appL A (appL vs B)) :: fr.defers⟩ : Fr), S)
          | _, _, _ => none) = (match (match (none : Option Nat), aev fr g, evs (aev fr) args.toList with
          | none, some (.fn (.func f) A B), some vs => some (undefV, some (.call f (appL A (appL vs B))), S)
          | _, _, _ => none : Option (AV × Option ADef × St)) with | some p => some (p.1, ⟨fr.tmps, fr.ntm, consO p.2.1 fr.defers⟩, p.2.2) | none => none)
        cases aev fr g with
        | none => rfl
        | some gv =>
          cases evs (aev fr) args.toList with
          | none =>
            cases gv with
            | fn f A B => cases f <;> rfl
            | _ => rfl
          | some vs =>
            cases gv with
            | fn f A B => cases f <;> rfl
            | _ => rfl
    all_goals exact other
  all_goals exact other

section
variable {P : Program} {ext : T AnsF} {lv : Lv} {codeF : CodeF} {callF : CallF}

theorem cOp_ok (hl : LvOk lv codeF callF) (ntm : Nat) (o : Oper) (ro : Option Nat) (e : ET) (h : T AObj) (n : Nat) (d : List ADef) (k : AV → KM → KR) :
    (cOp P ext (cX ntm) (evIn ntm) o.op).go lv ro e ⟨h, n, d⟩ k = toKS (stepF P (callX ext callF) codeF ro o ⟨e, ntm, d⟩ ⟨h, n⟩) k := by
  have hx := cX_ok ntm
  have ploud : (cLoud P ext (cX ntm) (evIn ntm) o.op).go lv ro e ⟨h, n, d⟩ k = toKL (stepE P (callX ext callF) codeF ro o (evIn ntm e) ⟨h, n⟩) d k := cLoud_ok hl hx o ro e h n d k
  unfold cOp
  cases hc : ocls P o.op with
  | pure =>
    rw [stepF_plain (fun g a t e' => by rw [e'] at hc; cases hc) (fun g a t e' => by rw [e'] at hc; cases hc)]
    unfold aplain
    rw [evIn_eq, hc]
    show (cPu P (cX ntm) (evIn ntm) o.op).go e (fun v => k v ⟨h, n, d⟩) = _
    rw [cPu_ok hx]
    simp only []
    cases aP P (evIn ntm e) o.op <;> rfl
  | read =>
    rw [stepF_plain (fun g a t e' => by rw [e'] at hc; cases hc) (fun g a t e' => by rw [e'] at hc; cases hc)]
    unfold aplain
    rw [evIn_eq, hc]
    show (cRd P (cX ntm) (evIn ntm) o.op).go e h (fun v => k v ⟨h, n, d⟩) = _
    rw [cRd_ok hx]
    simp only []
    cases aR P (evIn ntm e) o.op h <;> rfl
  | alloc =>
    rw [stepF_plain (fun g a t e' => by rw [e'] at hc; cases hc) (fun g a t e' => by rw [e'] at hc; cases hc)]
    unfold aplain
    rw [evIn_eq, hc]
    show (cAl P (cX ntm) (evIn ntm) o.op).go e (fun o f => natK n (fun n => k (f n) ⟨h.set n o, Nat.succ n, d⟩)) = _
    rw [cAl_ok]
    simp only []
    cases aA P (evIn ntm e) o.op with
    | none => rfl
    | some p => simp only [toKA]; rw [natK_eq]; rfl
  | _ =>
    rw [stepF_loud (by rw [hc]; simp) (by rw [hc]; simp) (by rw [hc]; simp), evIn_eq]
    refine ploud.trans ?_
    cases stepE P (callX ext callF) codeF ro o (evIn ntm e) ⟨h, n⟩ <;> rfl

theorem stepF_same {callX : CallF} {ro : Option Nat} {o : Oper} {fr fr' : Fr} {S S' : St} {v : AV} (h : stepF P callX codeF ro o fr S = some (v, fr', S')) : fr'.ntm = fr.ntm ∧ fr'.tmps = fr.tmps := by
  unfold stepF at h
  repeat' split at h
  all_goals first
    | (cases h; done)
    | (simp only [Option.some.injEq, Prod.mk.injEq] at h; obtain ⟨_, rfl, _⟩ := h; exact ⟨rfl, rfl⟩)

/-! a region in order -/
noncomputable def toKO (o : Option (Fr × St)) (k : KN) : KR := match o with | some p => k p.1.tmps ⟨p.2.heap, p.2.next, p.1.defers⟩ | none => none
theorem cG_ok {cx : Operand → KX} {evf : ET → Operand → Option AV} (hx : CxOk cx evf) (all : List Oper) (o : Oper) (e : ET) (k : Bool → KR) :
    (cG cx all o).go e k = (match awantedE all o (evf e) with | some w => k w | none => none) := by
  unfold cG awantedE
  cases o.guard with
  | none => rfl
  | some p =>
    simp only []
    cases nthL all p.1 with
    | none => rfl
    | some q =>
      simp only []
      cases q.dst with
      | none => rfl
      | some t =>
        show (cx (.tmp t)).ev e (fun v => wantK v p.2 k) = _
        have g1 : (cx (.tmp t)).ev e (fun v => wantK v p.2 k) = toK (evf e (.tmp t)) (fun v => wantK v p.2 k) := hx _ _ _
        rw [g1]
        simp only []
        cases evf e (.tmp t) with
        | none => rfl
        | some v =>
          cases v with
          | bool b => show k (Bool.rec (motive := fun _ => Bool) (notB b) b p.2) = _; rw [notB_eq]
          | tup l => cases l <;> rfl
          | _ => rfl
theorem awantedE_eq (all : List Oper) (o : Oper) (fr : Fr) : awantedE all o (aev fr) = awanted all o fr := rfl

theorem cOps_ok (hl : LvOk lv codeF callF) (ntm : Nat) (all : List Oper) (ro : Option Nat) (k : KN) : ∀ (l : List Oper) (e : ET) (h : T AObj) (n : Nat) (d : List ADef),
    (cOps P ext ntm all l).go lv ro e ⟨h, n, d⟩ k = toKO (opsF P (callX ext callF) codeF ro all l ⟨e, ntm, d⟩ ⟨h, n⟩) k
  | [], e, h, n, d => rfl
  | o :: l, e, h, n, d => by
    have ih := cOps_ok hl ntm all ro k l
    have hops : opsF P (callX ext callF) codeF ro all (o :: l) ⟨e, ntm, d⟩ ⟨h, n⟩ = (match awanted all o ⟨e, ntm, d⟩ with
      | some true => (match stepF P (callX ext callF) codeF ro o ⟨e, ntm, d⟩ ⟨h, n⟩ with
        | some (v, fr', S') => (match aput fr' o.dst v with | some fr'' => opsF P (callX ext callF) codeF ro all l fr'' S' | none => none)
        | none => none)
      | some false => (match aput ⟨e, ntm, d⟩ o.dst undefV with | some fr' => opsF P (callX ext callF) codeF ro all l fr' ⟨h, n⟩ | none => none)
      | none => none) := rfl
    have run : (cOp P ext (cX ntm) (evIn ntm) o.op).go lv ro e ⟨h, n, d⟩ (fun v m => (cPut ntm o.dst).go e v (fun e => (cOps P ext ntm all l).go lv ro e m k)) =
        toKO (match stepF P (callX ext callF) codeF ro o ⟨e, ntm, d⟩ ⟨h, n⟩ with
        | some (v, fr', S') => (match aput fr' o.dst v with | some fr'' => opsF P (callX ext callF) codeF ro all l fr'' S' | none => none)
        | none => none) k := by
      rw [cOp_ok hl]
      cases es : stepF P (callX ext callF) codeF ro o ⟨e, ntm, d⟩ ⟨h, n⟩ with
      | none => rfl
      | some p =>
        obtain ⟨v, ⟨ft, fn, fd⟩, S'⟩ := p
        obtain ⟨h1, h2⟩ := stepF_same es
        simp only at h1 h2; subst h1; subst h2
        show (cPut fn o.dst).go ft v (fun e => (cOps P ext fn all l).go lv ro e ⟨S'.heap, S'.next, fd⟩ k) = _
        rw [cPut_ok fn o.dst ft fd]
        simp only []
        cases ep : aput ⟨ft, fn, fd⟩ o.dst v with
        | none => rfl
        | some fr2 =>
          obtain ⟨h3, h4⟩ := aput_same ep
          obtain ⟨t2, n2, d2⟩ := fr2
          simp only at h3 h4; subst h3; subst h4
          exact ih _ _ _ _
    have skip : (cPut ntm o.dst).go e undefV (fun e => (cOps P ext ntm all l).go lv ro e ⟨h, n, d⟩ k) =
        toKO (match aput ⟨e, ntm, d⟩ o.dst undefV with | some fr' => opsF P (callX ext callF) codeF ro all l fr' ⟨h, n⟩ | none => none) k := by
      rw [cPut_ok ntm o.dst e d]
      cases ep : aput ⟨e, ntm, d⟩ o.dst undefV with
      | none => rfl
      | some fr2 =>
        obtain ⟨h3, h4⟩ := aput_same ep
        obtain ⟨t2, n2, d2⟩ := fr2
        simp only at h3 h4; subst h3; subst h4
        exact ih _ _ _ _
    rw [hops]
    cases hg : o.guard with
    | none =>
      have e1 : (cOps P ext ntm all (o :: l)).go lv ro e ⟨h, n, d⟩ k = (cOp P ext (cX ntm) (evIn ntm) o.op).go lv ro e ⟨h, n, d⟩ (fun v m => (cPut ntm o.dst).go e v (fun e => (cOps P ext ntm all l).go lv ro e m k)) := by
        show ((match o.guard with | none => _ | some _ => _ : KO)).go lv ro e ⟨h, n, d⟩ k = _
        rw [hg]
        rfl
      have e2 : awanted all o ⟨e, ntm, d⟩ = some true := by unfold awanted; rw [hg]
      rw [e1, e2, run]
    | some p =>
      have e1 : (cOps P ext ntm all (o :: l)).go lv ro e ⟨h, n, d⟩ k = (cG (cX ntm) all o).go e (fun w => Bool.rec (motive := fun _ => KR)
          ((cPut ntm o.dst).go e undefV (fun e => (cOps P ext ntm all l).go lv ro e ⟨h, n, d⟩ k))
          ((cOp P ext (cX ntm) (evIn ntm) o.op).go lv ro e ⟨h, n, d⟩ (fun v m => (cPut ntm o.dst).go e v (fun e => (cOps P ext ntm all l).go lv ro e m k))) w) := by
        show ((match o.guard with | none => _ | some _ => _ : KO)).go lv ro e ⟨h, n, d⟩ k = _
        rw [hg]
        rfl
      rw [e1, cG_ok (cX_ok ntm), ← evIn_eq e ntm d, awantedE_eq]
      cases awanted all o ⟨e, ntm, d⟩ with
      | none => rfl
      | some w =>
        cases w with
        | true => exact run
        | false => exact skip
end
end Go.Eng
/- Engine, part 30: the second evaluator is the first one: regions that draw. -/
namespace Go.Eng
open Go
set_option linter.unusedVariables false

noncomputable def toKD (o : Option DS) (k : ET → KM → List St → KR) : KR := match o with | some d => k d.fr.tmps ⟨d.S.heap, d.S.next, d.fr.defers⟩ d.hs | none => none
section
variable {P : Program} {ext : T AnsF} {lv : Lv} {codeF : CodeF} {callF : CallF}

theorem sames_zero (ev : Operand → Option AV) (op : Op) (v : AV) : ∀ (hs : List St), sames P ev op v hs 0 = true
  | [] => rfl
  | _ :: _ => rfl

/-- what 'one' does with a wanted operation -/
noncomputable def oneT (P : Program) (callF : CallF) (codeF : CodeF) (ro : Option Nat) (x : POp) (d : DS) : Option DS :=
  match ocls P x.o.op with
    | .pure => (match aP P (aevM d.fr x.mask) x.o.op with
      | some v => (match aput d.fr x.o.dst v with | some fr => some ⟨fr, d.S, d.hs, d.log⟩ | none => none)
      | none => none)
    | .read => (match d.hs with
      | h :: t => (match aR P (aevM d.fr x.mask) x.o.op h.heap with
        | some v => (match sames P (aevM d.fr x.mask) x.o.op v t x.back with
          | true => (match aput d.fr x.o.dst v with | some fr => some ⟨fr, d.S, d.hs, d.log⟩ | none => none)
          | false => none)
        | none => none)
      | [] => none)
    | .alloc => (match aA P (aevM d.fr x.mask) x.o.op with
      | some p => (match aput d.fr x.o.dst (p.2 d.S.next) with
        | some fr => some ⟨fr, ⟨d.S.heap.set d.S.next p.1, Nat.succ d.S.next⟩, d.hs, (d.S.next, x.i, p.1) :: d.log⟩
        | none => none)
      | none => none)
    | _ => (match stepE P callF codeF ro x.o (aevM d.fr x.mask) d.S with
      | some (v, df, S') => (match aput d.fr x.o.dst v with
        | some fr => some ⟨⟨fr.tmps, fr.ntm, consO df fr.defers⟩, S', S' :: d.hs, d.log⟩
        | none => none)
      | none => none)
theorem one_true {ro : Option Nat} {all : List Oper} {x : POp} {d : DS} (h : awantedE all x.o (aevM d.fr x.mask) = some true) : one P callF codeF ro all x d = oneT P callF codeF ro x d := by
  unfold one; rw [h]; rfl

theorem put_same (ntm : Nat) (dst : Option Tmp) (e : ET) (dd dd' : List ADef) (v : AV) (k : ET → KR) (f : Fr → Option DS) (K : ET → KM → List St → KR)
    (hk : ∀ e', k e' = toKD (f ⟨e', ntm, dd⟩) K) : (cPut ntm dst).go e v k = toKD (match aput ⟨e, ntm, dd⟩ dst v with | some fr => f fr | none => none) K := by
  rw [cPut_ok ntm dst e dd]
  cases ep : aput ⟨e, ntm, dd⟩ dst v with
  | none => rfl
  | some fr =>
    obtain ⟨h3, h4⟩ := aput_same ep
    obtain ⟨t2, n2, d2⟩ := fr
    simp only at h3 h4; subst h3; subst h4
    exact hk _

theorem cDraw1_ok (hl : LvOk lv codeF callF) (ntm : Nat) (x : POp) (ro : Option Nat) (e : ET) (h : T AObj) (n : Nat) (dd : List ADef) (hs : List St) (log : List (Nat × Nat × AObj)) (K : ET → KM → List St → KR) :
    (cDraw1 P ext ntm x).go lv ro e ⟨h, n, dd⟩ hs (fun v m hs => (cPut ntm x.o.dst).go e v (fun e => K e m hs)) = toKD (oneT P (callX ext callF) codeF ro x ⟨⟨e, ntm, dd⟩, ⟨h, n⟩, hs, log⟩) K := by
  have hx := cXM_ok ntm x.mask
  unfold cDraw1 oneT
  rw [evMs_eq]
  cases hc : ocls P x.o.op with
  | pure =>
    show (cPu P (cXM ntm x.mask) (evMs ntm x.mask) x.o.op).go e (fun v => (cPut ntm x.o.dst).go e v (fun e => K e ⟨h, n, dd⟩ hs)) = _
    rw [cPu_ok hx]
    simp only []
    cases aP P (evMs ntm x.mask e) x.o.op with
    | none => rfl
    | some v =>
      show (cPut ntm x.o.dst).go e v (fun e => K e ⟨h, n, dd⟩ hs) = _
      exact put_same ntm x.o.dst e dd dd v _ (fun fr => some ⟨fr, ⟨h, n⟩, hs, log⟩) K (fun _ => rfl)
  | read =>
    have e1 : ∀ (KK : AV → KM → List St → KR), (KRd.rec (motive := fun _ => KH) (fun f => (match x.back with
      | 0 => ⟨fun _ _ e m hs k => headK hs (fun h _ => f e h (fun v => k v m hs))⟩
      | b + 1 => ⟨fun _ _ e m hs k => headK hs (fun h t => f e h (fun v => match sames P (evMs ntm x.mask e) x.o.op v t (b + 1) with | true => k v m hs | false => none))⟩)) (cRd P (cXM ntm x.mask) (evMs ntm x.mask) x.o.op)).go lv ro e ⟨h, n, dd⟩ hs KK =
        (match hs with
        | hd :: t => toK (aR P (evMs ntm x.mask e) x.o.op hd.heap) (fun v => match sames P (evMs ntm x.mask e) x.o.op v t x.back with | true => KK v ⟨h, n, dd⟩ hs | false => none)
        | [] => none) := by
      intro KK
      show (match x.back with
      | 0 => ⟨fun _ _ e m hs k => headK hs (fun h _ => (cRd P (cXM ntm x.mask) (evMs ntm x.mask) x.o.op).go e h (fun v => k v m hs))⟩
      | b + 1 => ⟨fun _ _ e m hs k => headK hs (fun h t => (cRd P (cXM ntm x.mask) (evMs ntm x.mask) x.o.op).go e h (fun v => match sames P (evMs ntm x.mask e) x.o.op v t (b + 1) with | true => k v m hs | false => none))⟩ : KH).go lv ro e ⟨h, n, dd⟩ hs KK = _
      cases hb : x.back with
      | zero =>
        cases hs with
        | nil => rfl
        | cons hd t =>
          obtain ⟨hh, hn⟩ := hd
          show (cRd P (cXM ntm x.mask) (evMs ntm x.mask) x.o.op).go e hh (fun v => KK v ⟨h, n, dd⟩ (⟨hh, hn⟩ :: t)) = _
          rw [cRd_ok hx]
          simp only [sames_zero]
      | succ b =>
        cases hs with
        | nil => rfl
        | cons hd t =>
          obtain ⟨hh, hn⟩ := hd
          show (cRd P (cXM ntm x.mask) (evMs ntm x.mask) x.o.op).go e hh (fun v => match sames P (evMs ntm x.mask e) x.o.op v t (b + 1) with | true => KK v ⟨h, n, dd⟩ (⟨hh, hn⟩ :: t) | false => none) = _
          rw [cRd_ok hx]
    refine (e1 _).trans ?_
    cases hs with
    | nil => rfl
    | cons hd t =>
      simp only []
      cases aR P (evMs ntm x.mask e) x.o.op hd.heap with
      | none => rfl
      | some v =>
        simp only [toK]
        cases sames P (evMs ntm x.mask e) x.o.op v t x.back with
        | false => rfl
        | true => exact put_same ntm x.o.dst e dd dd v _ (fun fr => some ⟨fr, ⟨h, n⟩, hd :: t, log⟩) K (fun _ => rfl)
  | alloc =>
    show (cAl P (cXM ntm x.mask) (evMs ntm x.mask) x.o.op).go e (fun o f => natK n (fun n => (cPut ntm x.o.dst).go e (f n) (fun e => K e ⟨h.set n o, Nat.succ n, dd⟩ hs))) = _
    rw [cAl_ok]
    simp only []
    cases aA P (evMs ntm x.mask e) x.o.op with
    | none => rfl
    | some p =>
      simp only [toKA]
      rw [natK_eq]
      exact put_same ntm x.o.dst e dd dd _ _ (fun fr => some ⟨fr, ⟨h.set n p.1, Nat.succ n⟩, hs, (n, x.i, p.1) :: log⟩) K (fun _ => rfl)
  | _ =>
    show (cLoud P ext (cXM ntm x.mask) (evMs ntm x.mask) x.o.op).go lv ro e ⟨h, n, dd⟩ (fun v m => KM.rec (motive := fun _ => KR) (fun h n _ => (cPut ntm x.o.dst).go e v (fun e => K e m (⟨h, n⟩ :: hs))) m) = _
    rw [cLoud_ok hl hx]
    simp only []
    cases stepE P (callX ext callF) codeF ro x.o (evMs ntm x.mask e) ⟨h, n⟩ with
    | none => rfl
    | some p =>
      obtain ⟨v, df, S'⟩ := p
      obtain ⟨h', n'⟩ := S'
      show (cPut ntm x.o.dst).go e v (fun e => K e ⟨h', n', consO df dd⟩ (⟨h', n'⟩ :: hs)) = _
      exact put_same ntm x.o.dst e dd dd v _ (fun fr => some ⟨⟨fr.tmps, fr.ntm, consO df fr.defers⟩, ⟨h', n'⟩, ⟨h', n'⟩ :: hs, log⟩) K (fun _ => rfl)

theorem oneT_ntm {callX : CallF} {ro : Option Nat} {x : POp} {d d' : DS} (h : oneT P callX codeF ro x d = some d') : d'.fr.ntm = d.fr.ntm := by
  unfold oneT at h
  repeat' split at h
  all_goals first
    | (cases h; done)
    | (obtain rfl := Option.some.inj h; rename_i hh; exact (aput_same hh).1)

theorem cDraw_ok (hl : LvOk lv codeF callF) (ntm : Nat) (all : List Oper) (ro : Option Nat) (k : KN) : ∀ (l : List POp) (e : ET) (h : T AObj) (n : Nat) (dd : List ADef) (hs : List St) (log : List (Nat × Nat × AObj)),
    (cDraw P ext ntm all l).go lv ro e ⟨h, n, dd⟩ hs k = toKD (runP P (callX ext callF) codeF ro all l ⟨⟨e, ntm, dd⟩, ⟨h, n⟩, hs, log⟩) (fun e m _ => k e m)
  | [], e, h, n, dd, hs, log => rfl
  | x :: l, e, h, n, dd, hs, log => by
    have ih := cDraw_ok hl ntm all ro k l
    have ih' : ∀ (d : DS), d.fr.ntm = ntm → (cDraw P ext ntm all l).go lv ro d.fr.tmps ⟨d.S.heap, d.S.next, d.fr.defers⟩ d.hs k = toKD (runP P (callX ext callF) codeF ro all l d) (fun e m _ => k e m) := by
      intro d hd
      obtain ⟨⟨t, nn, ds⟩, ⟨h', n'⟩, hs', log'⟩ := d
      simp only at hd; subst hd
      exact ih _ _ _ _ _ _
    have hrun : ∀ d, runP P (callX ext callF) codeF ro all (x :: l) d = (match one P (callX ext callF) codeF ro all x d with | some d' => runP P (callX ext callF) codeF ro all l d' | none => none) := fun d => rfl
    have run : (cDraw1 P ext ntm x).go lv ro e ⟨h, n, dd⟩ hs (fun v m hs => (cPut ntm x.o.dst).go e v (fun e => (cDraw P ext ntm all l).go lv ro e m hs k)) =
        toKD (match oneT P (callX ext callF) codeF ro x ⟨⟨e, ntm, dd⟩, ⟨h, n⟩, hs, log⟩ with | some d' => runP P (callX ext callF) codeF ro all l d' | none => none) (fun e m _ => k e m) := by
      rw [cDraw1_ok hl ntm x ro e h n dd hs log]
      cases eo : oneT P (callX ext callF) codeF ro x ⟨⟨e, ntm, dd⟩, ⟨h, n⟩, hs, log⟩ with
      | none => rfl
      | some d' => exact ih' d' (oneT_ntm eo)
    rw [hrun]
    cases hg : x.o.guard with
    | none =>
      have e1 : (cDraw P ext ntm all (x :: l)).go lv ro e ⟨h, n, dd⟩ hs k = (cDraw1 P ext ntm x).go lv ro e ⟨h, n, dd⟩ hs (fun v m hs => (cPut ntm x.o.dst).go e v (fun e => (cDraw P ext ntm all l).go lv ro e m hs k)) := by
        show ((match x.o.guard with | none => _ | some _ => _ : KP)).go lv ro e ⟨h, n, dd⟩ hs k = _
        rw [hg]
        rfl
      have e2 : awantedE all x.o (aevM (⟨e, ntm, dd⟩ : Fr) x.mask) = some true := by unfold awantedE; rw [hg]
      rw [e1, one_true e2, run]
    | some p =>
      have hskip : ∀ (dn : DS), (aput (⟨e, ntm, dd⟩ : Fr) x.o.dst undefV = none → True) → True := fun _ _ => trivial
      cases hloud : (ocls P x.o.op).loud with
      | true =>
        have e1 : (cDraw P ext ntm all (x :: l)).go lv ro e ⟨h, n, dd⟩ hs k = (cG (cXM ntm x.mask) all x.o).go e (fun w => Bool.rec (motive := fun _ => KR)
            ((cPut ntm x.o.dst).go e undefV (fun e => (cDraw P ext ntm all l).go lv ro e ⟨h, n, dd⟩ (⟨h, n⟩ :: hs) k))
            ((cDraw1 P ext ntm x).go lv ro e ⟨h, n, dd⟩ hs (fun v m hs => (cPut ntm x.o.dst).go e v (fun e => (cDraw P ext ntm all l).go lv ro e m hs k))) w) := by
          show ((match x.o.guard with | none => _ | some _ => _ : KP)).go lv ro e ⟨h, n, dd⟩ hs k = _
          rw [hg]
          show ((match (ocls P x.o.op).loud with | true => _ | false => _ : KP)).go lv ro e ⟨h, n, dd⟩ hs k = _
          rw [hloud]
          rfl
        rw [e1, cG_ok (cXM_ok ntm x.mask), ← evMs_eq e ntm dd x.mask]
        cases ew : awantedE all x.o (aevM (⟨e, ntm, dd⟩ : Fr) x.mask) with
        | none => unfold one; rw [ew]; rfl
        | some w =>
          cases w with
          | true => rw [one_true ew]; exact run
          | false =>
            have e3 : one P (callX ext callF) codeF ro all x ⟨⟨e, ntm, dd⟩, ⟨h, n⟩, hs, log⟩ = (match aput (⟨e, ntm, dd⟩ : Fr) x.o.dst undefV with
              | some fr => some ⟨fr, ⟨h, n⟩, ⟨h, n⟩ :: hs, log⟩
              | none => none) := by
              unfold one; rw [ew]; simp only [hloud]; cases aput (⟨e, ntm, dd⟩ : Fr) x.o.dst undefV <;> rfl
            rw [e3]
            show (cPut ntm x.o.dst).go e undefV (fun e => (cDraw P ext ntm all l).go lv ro e ⟨h, n, dd⟩ (⟨h, n⟩ :: hs) k) = _
            rw [cPut_ok ntm x.o.dst e dd]
            cases ep : aput (⟨e, ntm, dd⟩ : Fr) x.o.dst undefV with
            | none => rfl
            | some fr =>
              obtain ⟨h3, h4⟩ := aput_same ep
              obtain ⟨t2, n2, d2⟩ := fr
              simp only at h3 h4; subst h3; subst h4
              exact ih _ _ _ _ _ _
      | false =>
        have e1 : (cDraw P ext ntm all (x :: l)).go lv ro e ⟨h, n, dd⟩ hs k = (cG (cXM ntm x.mask) all x.o).go e (fun w => Bool.rec (motive := fun _ => KR)
            ((cPut ntm x.o.dst).go e undefV (fun e => (cDraw P ext ntm all l).go lv ro e ⟨h, n, dd⟩ hs k))
            ((cDraw1 P ext ntm x).go lv ro e ⟨h, n, dd⟩ hs (fun v m hs => (cPut ntm x.o.dst).go e v (fun e => (cDraw P ext ntm all l).go lv ro e m hs k))) w) := by
          show ((match x.o.guard with | none => _ | some _ => _ : KP)).go lv ro e ⟨h, n, dd⟩ hs k = _
          rw [hg]
          show ((match (ocls P x.o.op).loud with | true => _ | false => _ : KP)).go lv ro e ⟨h, n, dd⟩ hs k = _
          rw [hloud]
          rfl
        rw [e1, cG_ok (cXM_ok ntm x.mask), ← evMs_eq e ntm dd x.mask]
        cases ew : awantedE all x.o (aevM (⟨e, ntm, dd⟩ : Fr) x.mask) with
        | none => unfold one; rw [ew]; rfl
        | some w =>
          cases w with
          | true => rw [one_true ew]; exact run
          | false =>
            have e3 : one P (callX ext callF) codeF ro all x ⟨⟨e, ntm, dd⟩, ⟨h, n⟩, hs, log⟩ = (match aput (⟨e, ntm, dd⟩ : Fr) x.o.dst undefV with
              | some fr => some ⟨fr, ⟨h, n⟩, hs, log⟩
              | none => none) := by
              unfold one; rw [ew]; simp only [hloud]; cases aput (⟨e, ntm, dd⟩ : Fr) x.o.dst undefV <;> rfl
            rw [e3]
            show (cPut ntm x.o.dst).go e undefV (fun e => (cDraw P ext ntm all l).go lv ro e ⟨h, n, dd⟩ hs k) = _
            rw [cPut_ok ntm x.o.dst e dd]
            cases ep : aput (⟨e, ntm, dd⟩ : Fr) x.o.dst undefV with
            | none => rfl
            | some fr =>
              obtain ⟨h3, h4⟩ := aput_same ep
              obtain ⟨t2, n2, d2⟩ := fr
              simp only at h3 h4; subst h3; subst h4
              exact ih _ _ _ _ _ _
end
end Go.Eng
