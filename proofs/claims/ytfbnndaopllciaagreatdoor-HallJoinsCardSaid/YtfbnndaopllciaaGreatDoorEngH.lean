/- An evaluator of Go code over abstract values and memory, proved sound, part H: the second evaluator is sound (runK_ok); calls that are reckoned once and for all (sum_const, sum_tbl). No condition but those that each theorem names. -/
import Derived.Test.YtfbnndaopllciaaGreatDoorEngG
/- Engine, part 31: the second evaluator is the first one: code, calls, whole; so it is sound. -/
namespace Go.Eng
open Go
set_option linter.unusedVariables false

section
variable {P : Program} {lv : Lv} {codeF : CodeF} {callF : CallF}

theorem exitK_eq (id : Nat) (kn : KN) (ke : KE) (x : AX) (e : ET) (m : KM) : axK x e m kn (exitK id kn ke) = (match x with
    | .exit j => (match Nat.beq j id with | true => kn e m | false => ke (.exit j) e m)
    | .normal => kn e m
    | .ret => ke .ret e m) := by
  cases x with
  | exit j =>
    show Bool.rec (motive := fun _ => KR) (ke (.exit j) e m) (kn e m) (Nat.beq j id) = _
    cases h : Nat.beq j id <;> simp [h]
  | _ => rfl

theorem loopK_ok (hl : LvOk lv codeF callF) (ntm : Nat) (b : Code) (ro : Option Nat) (kn : KN) (ke : KE) : ∀ (m : Nat) (e : ET) (h : T AObj) (n : Nat) (d : List ADef),
    loopK lv ntm b ro ke m e ⟨h, n, d⟩ = toKC (loopF codeF ro b m ⟨e, ntm, d⟩ ⟨h, n⟩) kn ke
  | 0, e, h, n, d => rfl
  | m + 1, e, h, n, d => by
    have ih := loopK_ok hl ntm b ro kn ke m
    show lv.code ntm b ro e ⟨h, n, d⟩ (loopK lv ntm b ro ke m) ke = toKC (match codeF ro b ⟨e, ntm, d⟩ ⟨h, n⟩ with
      | some (.normal, fr1, S1) => loopF codeF ro b m fr1 S1
      | some (.ret, fr1, S1) => some (.ret, fr1, S1)
      | some (.exit id, fr1, S1) => some (.exit id, fr1, S1)
      | none => none) kn ke
    rw [hl.code]
    cases ec : codeF ro b ⟨e, ntm, d⟩ ⟨h, n⟩ with
    | none => rfl
    | some p =>
      obtain ⟨x, ⟨t1, n1, d1⟩, ⟨h1, m1⟩⟩ := p
      have en := hl.ntm _ _ _ _ _ _ _ ec
      simp only at en; subst en
      cases x with
      | normal => exact ih _ _ _ _
      | _ => rfl

theorem rangeEnd_ok (l : Nat) (e : ET) (ntm : Nat) (d : List ADef) (kn : KN) (ke : KE) (h : T AObj) (n : Nat) :
    rangeEnd l e d kn ke h n = toKC (match h.get l with
      | some (.loop r) => (match r.state, axOf r.pending with
          | .busy, _ => none
          | _, some x => some (x, (⟨e, ntm, d⟩ : Fr), (⟨h.set l (.loop { r with state := .exhausted }), n⟩ : St))
          | _, none => none)
      | _ => none) kn ke := by
  unfold rangeEnd
  cases h.get l with
  | none => rfl
  | some o =>
    cases o with
    | loop r =>
      obtain ⟨st, pe, t, nt, ps, a, b, df⟩ := r
      simp only []
      cases st <;> cases axOf pe <;> rfl
    | _ => rfl

theorem rangeK_ok (hl : LvOk lv codeF callF) (ro : Option Nat) (g : Operand) (ntm : Nat) (ps : Array Tmp) (asg body : Code) (e : ET) (h : T AObj) (n : Nat) (d : List ADef) (kn : KN) (ke : KE) :
    (cX ntm g).go e (fun gv => rangeK lv ro gv ntm ps asg body e ⟨h, n, d⟩ kn ke) = toKC (rangeF callF ro g ps asg body ⟨e, ntm, d⟩ ⟨h, n⟩) kn ke := by
  have g1 : ∀ f, (cX ntm g).go e f = toK (evIn ntm e g) f := fun f => cX_ok ntm g e f
  rw [g1]
  unfold rangeF
  rw [evIn_eq]
  cases evIn ntm e g with
  | none => rfl
  | some gv =>
    show rangeK lv ro gv ntm ps asg body e ⟨h, n, d⟩ kn ke = _
    cases gv with
    | fn f A B =>
      cases f with
      | func f =>
        unfold rangeK
        simp only [natK_eq]
        cases ro with
        | none =>
          simp only [hl.call, enterF]
          cases callF f (appL A (.fn (.yield (Nat.succ n)) [] [] :: B)) ⟨(h.set n (.dfr false)).set (Nat.succ n) (.loop ⟨.ready, none, e, ntm, ps, asg, body, n⟩), Nat.succ (Nat.succ n)⟩ with
          | none => rfl
          | some p => exact rangeEnd_ok _ _ _ _ _ _ _ _
        | some l0 =>
          simp only [enterF]
          cases h.get l0 with
          | none => rfl
          | some o =>
            cases o with
            | loop r0 =>
              simp only [hl.call]
              cases callF f (appL A (.fn (.yield n) [] [] :: B)) ⟨h.set n (.loop ⟨.ready, none, e, ntm, ps, asg, body, r0.defers⟩), Nat.succ n⟩ with
              | none => rfl
              | some p => exact rangeEnd_ok _ _ _ _ _ _ _ _
            | _ => rfl
      | _ => rfl
    | _ => rfl

variable {ext : T AnsF}
theorem cC_ok (hl : LvOk lv codeF callF) (ntm : Nat) (c : Code) (ro : Option Nat) (e : ET) (h : T AObj) (n : Nat) (d : List ADef) (kn : KN) (ke : KE) :
    (cC P ext ntm c).go lv ro e ⟨h, n, d⟩ kn ke = toKC (codeBody P ext (drawF P) callF codeF ro c ⟨e, ntm, d⟩ ⟨h, n⟩) kn ke := by
  cases c
  case skip => rfl
  case label l => rfl
  case region id ops draw =>
    cases draw with
    | false =>
      show (cOps P ext ntm ops.toList ops.toList).go lv ro e ⟨h, n, d⟩ kn = toKC (match opsF P (callX ext callF) codeF ro ops.toList ops.toList ⟨e, ntm, d⟩ ⟨h, n⟩ with | some (fr1, S1) => some (.normal, fr1, S1) | none => none) kn ke
      rw [cOps_ok hl]
      cases opsF P (callX ext callF) codeF ro ops.toList ops.toList ⟨e, ntm, d⟩ ⟨h, n⟩ <;> rfl
    | true =>
      show (match planOf P ops.toList with
        | some l => KP.rec (motive := fun _ => KC) (fun f => ⟨fun lv ro e m kn _ => KM.rec (motive := fun _ => KR) (fun h n _ => f lv ro e m [⟨h, n⟩] kn) m⟩) (cDraw P ext ntm ops.toList l)
        | none => ⟨fun _ _ _ _ _ _ => none⟩ : KC).go lv ro e ⟨h, n, d⟩ kn ke = toKC (match (match planOf P ops.toList with
          | some l => (match runP P (callX ext callF) codeF ro ops.toList l ⟨⟨e, ntm, d⟩, ⟨h, n⟩, [⟨h, n⟩], []⟩ with
            | some d => some (d.fr, d.S)
            | none => none)
          | none => none) with | some (fr1, S1) => some (.normal, fr1, S1) | none => none) kn ke
      cases planOf P ops.toList with
      | none => rfl
      | some l =>
        show (cDraw P ext ntm ops.toList l).go lv ro e ⟨h, n, d⟩ [⟨h, n⟩] kn = _
        rw [cDraw_ok hl ntm ops.toList ro kn l e h n d [⟨h, n⟩] []]
        simp only []
        cases runP P (callX ext callF) codeF ro ops.toList l ⟨⟨e, ntm, d⟩, ⟨h, n⟩, [⟨h, n⟩], []⟩ <;> rfl
  case seq a b =>
    show lv.code ntm a ro e ⟨h, n, d⟩ (fun e m => lv.code ntm b ro e m kn ke) ke = toKC (match codeF ro a ⟨e, ntm, d⟩ ⟨h, n⟩ with
      | some (.normal, fr1, S1) => codeF ro b fr1 S1
      | some (.ret, fr1, S1) => some (.ret, fr1, S1)
      | some (.exit id, fr1, S1) => some (.exit id, fr1, S1)
      | none => none) kn ke
    rw [hl.code]
    cases ec : codeF ro a ⟨e, ntm, d⟩ ⟨h, n⟩ with
    | none => rfl
    | some p =>
      obtain ⟨x, ⟨t1, n1, d1⟩, ⟨h1, m1⟩⟩ := p
      have en := hl.ntm _ _ _ _ _ _ _ ec
      simp only at en; subst en
      cases x with
      | normal =>
        show lv.code n1 b ro t1 ⟨h1, m1, d1⟩ kn ke = _
        rw [hl.code]
      | _ => rfl
  case cond x t f =>
    show (cX ntm x).go e (fun v => asB v (fun z => Bool.rec (motive := fun _ => KR) (lv.code ntm f ro e ⟨h, n, d⟩ kn ke) (lv.code ntm t ro e ⟨h, n, d⟩ kn ke) z)) = toKC (match aev ⟨e, ntm, d⟩ x with
      | some (.bool true) => codeF ro t ⟨e, ntm, d⟩ ⟨h, n⟩
      | some (.bool false) => codeF ro f ⟨e, ntm, d⟩ ⟨h, n⟩
      | _ => none) kn ke
    rw [cX_ok ntm x e, evIn_eq]
    cases evIn ntm e x with
    | none => rfl
    | some v =>
      show asB v _ = _
      rw [asB_eq]
      cases v with
      | bool z =>
        cases z
        · show lv.code ntm f ro e ⟨h, n, d⟩ kn ke = _; rw [hl.code]
        · show lv.code ntm t ro e ⟨h, n, d⟩ kn ke = _; rw [hl.code]
      | _ => rfl
  case block id b =>
    show lv.code ntm b ro e ⟨h, n, d⟩ kn (exitK id kn ke) = toKC (match codeF ro b ⟨e, ntm, d⟩ ⟨h, n⟩ with
      | some (.exit j, fr1, S1) => (match Nat.beq j id with | true => some (.normal, fr1, S1) | false => some (.exit j, fr1, S1))
      | some (.normal, fr1, S1) => some (.normal, fr1, S1)
      | some (.ret, fr1, S1) => some (.ret, fr1, S1)
      | none => none) kn ke
    rw [hl.code]
    cases codeF ro b ⟨e, ntm, d⟩ ⟨h, n⟩ with
    | none => rfl
    | some p =>
      obtain ⟨x, fr1, S1⟩ := p
      show axK x fr1.tmps ⟨S1.heap, S1.next, fr1.defers⟩ kn (exitK id kn ke) = _
      rw [exitK_eq]
      cases x with
      | exit j => simp only []; cases Nat.beq j id <;> rfl
      | _ => rfl
  case loop b => exact loopK_ok hl ntm b ro kn ke 100000 e h n d
  case rangeFunc g ps asg body => exact rangeK_ok hl ro g ntm ps asg body e h n d kn ke
  case exit id => rfl
  case scope b =>
    show lv.code ntm b ro e ⟨h, n, d⟩ kn ke = _
    rw [hl.code]; rfl
  case ret => rfl
  all_goals rfl

/-! functions -/
noncomputable def toKV (o : Option (List AV)) (k : List AV → KR) : KR := match o with | some v => k v | none => none
theorem cRes_ok (ntm : Nat) (e : ET) (d : List ADef) (h : T AObj) : ∀ (rs : List ResultVar) (k : List AV → KR), (cRes P ntm rs).go e h k = toKV (resL P ⟨e, ntm, d⟩ h rs) k
  | [], k => rfl
  | r :: rs, k => by
    have ih := cRes_ok ntm e d h rs
    have g1 : ∀ x f, (cX ntm x).ev e f = toK (aev ⟨e, ntm, d⟩ x) f := fun x f => by rw [evIn_eq]; exact cX_ok ntm x e f
    cases r with
    | tmp t =>
      show (cX ntm (.tmp t)).ev e (fun v => (cRes P ntm rs).go e h (fun vs => k (v :: vs))) = toKV (match aev ⟨e, ntm, d⟩ (.tmp t), resL P ⟨e, ntm, d⟩ h rs with | some v, some vs => some (v :: vs) | _, _ => none) k
      rw [g1]
      cases aev ⟨e, ntm, d⟩ (.tmp t) with
      | none => rfl
      | some v =>
        show (cRes P ntm rs).go e h (fun vs => k (v :: vs)) = _
        rw [ih]
        cases resL P ⟨e, ntm, d⟩ h rs <;> rfl
    | cell a t =>
      show (cX ntm (.tmp a)).ev e (fun u => (cRes P ntm rs).go e h (fun vs => optK (aload P h t u) (fun v => k (v :: vs)))) = toKV (match aev ⟨e, ntm, d⟩ (.tmp a), resL P ⟨e, ntm, d⟩ h rs with
        | some u, some vs => (match aload P h t u with | some v => some (v :: vs) | none => none)
        | _, _ => none) k
      rw [g1]
      cases aev ⟨e, ntm, d⟩ (.tmp a) with
      | none => rfl
      | some u =>
        show (cRes P ntm rs).go e h (fun vs => optK (aload P h t u) (fun v => k (v :: vs))) = _
        rw [ih]
        cases resL P ⟨e, ntm, d⟩ h rs with
        | none => rfl
        | some vs =>
          show optK (aload P h t u) (fun v => k (v :: vs)) = _
          rw [optK_eq]
          simp only []
          cases aload P h t u <;> rfl
theorem resK_ok (fn : Func) (e : ET) (d : List ADef) (h : T AObj) (n : Nat) (k : AV → KR) : resK P fn e h k = toK (resF P fn ⟨e, fn.ntmps, d⟩ ⟨h, n⟩) k := by
  unfold resK resF
  rw [cRes_ok fn.ntmps e d]
  cases resL P ⟨e, fn.ntmps, d⟩ h fn.results.toList with
  | none => rfl
  | some vs =>
    cases vs with
    | nil => rfl
    | cons v vs => cases vs <;> rfl

theorem lateK_ok (hl : LvOk lv codeF callF) (tab : T Func) (f : FuncId) (args : List AV) (h : T AObj) (n : Nat) (k : T AObj → Nat → KR) :
    lateK P tab lv f args h n k = (match lateF P tab codeF f args ⟨h, n⟩ with | some S => k S.heap S.next | none => none) := by
  unfold lateK lateF
  cases tab.get f with
  | none => rfl
  | some fn =>
    simp only []
    cases fn.body with
    | none => rfl
    | some c =>
      simp only []
      cases Nat.ble (lenL args) (lim fn.ntmps) with
      | false => rfl
      | true =>
        simp only [hl.code]
        cases ec : codeF none c ⟨initT args 0 ET.emp, fn.ntmps, []⟩ ⟨h, n⟩ with
        | none => rfl
        | some p =>
          obtain ⟨x, ⟨t1, n1, d1⟩, ⟨h1, m1⟩⟩ := p
          have en := hl.ntm _ _ _ _ _ _ _ ec
          simp only at en; subst en
          have fin : (match (generalizing := false) d1 with | [] => resK P fn t1 h1 (fun _ => k h1 m1) | _ => none : KR) = (match (generalizing := false) (match (generalizing := false) d1, resF P fn ⟨t1, fn.ntmps, d1⟩ ⟨h1, m1⟩ with | [], some _ => some (⟨h1, m1⟩ : St) | _, _ => none) with | some S => k S.heap S.next | none => none) := by
            cases d1 with
            | nil =>
              show resK P fn t1 h1 (fun _ => k h1 m1) = _
              rw [resK_ok fn t1 [] h1 m1]
              cases resF P fn ⟨t1, fn.ntmps, []⟩ ⟨h1, m1⟩ <;> rfl
            | cons a l => rfl
          cases x with
          | normal => exact fin
          | ret => exact fin
          | exit id => rfl

theorem leaveK_ok (hl : LvOk lv codeF callF) (tab : T Func) (fn : Func) (e : ET) (dd : List ADef) (k : AV → T AObj → Nat → KR) : ∀ (ds : List ADef) (h : T AObj) (n : Nat),
    leaveK P tab lv fn e k ds h n = toKE (leaveF P tab codeF fn ⟨e, fn.ntmps, dd⟩ ds ⟨h, n⟩) k
  | [], h, n => by
    show resK P fn e h (fun v => k v h n) = toKE (match resF P fn ⟨e, fn.ntmps, dd⟩ ⟨h, n⟩ with | some v => some (v, ⟨h, n⟩) | none => none) k
    rw [resK_ok fn e dd h n]
    cases resF P fn ⟨e, fn.ntmps, dd⟩ ⟨h, n⟩ <;> rfl
  | .mark b :: ds, h, n => by
    have ih := leaveK_ok hl tab fn e dd k ds
    show (match h.get b with | some (.dfr false) => leaveK P tab lv fn e k ds (h.set b (.dfr true)) n | _ => none) = toKE (match h.get b with
        | some (.dfr false) => leaveF P tab codeF fn ⟨e, fn.ntmps, dd⟩ ds ⟨h.set b (.dfr true), n⟩
        | _ => none) k
    cases h.get b with
    | none => rfl
    | some o =>
      cases o with
      | dfr t => cases t; exact ih _ _; rfl
      | _ => rfl
  | .call f args :: ds, h, n => by
    have ih := leaveK_ok hl tab fn e dd k ds
    show lateK P tab lv f args h n (leaveK P tab lv fn e k ds) = toKE (match lateF P tab codeF f args ⟨h, n⟩ with | some S1 => leaveF P tab codeF fn ⟨e, fn.ntmps, dd⟩ ds S1 | none => none) k
    rw [lateK_ok hl]
    cases lateF P tab codeF f args ⟨h, n⟩ with
    | none => rfl
    | some S => obtain ⟨h', n'⟩ := S; exact ih _ _

theorem plainK_ok (hl : LvOk lv codeF callF) (tab : T Func) (f : FuncId) (args : List AV) (h : T AObj) (n : Nat) (k : AV → T AObj → Nat → KR) :
    plainK P tab lv f args h n k = toKE (callPlain P tab codeF f args ⟨h, n⟩) k := by
  unfold plainK callPlain
  cases tab.get f with
  | none => rfl
  | some fn =>
    simp only []
    cases fn.body with
    | none => rfl
    | some c =>
      simp only []
      cases Nat.ble (lenL args) (lim fn.ntmps) with
      | false => rfl
      | true =>
        simp only [hl.code]
        cases ec : codeF none c ⟨initT args 0 ET.emp, fn.ntmps, []⟩ ⟨h, n⟩ with
        | none => rfl
        | some p =>
          obtain ⟨x, ⟨t1, n1, d1⟩, ⟨h1, m1⟩⟩ := p
          have en := hl.ntm _ _ _ _ _ _ _ ec
          simp only at en; subst en
          cases x with
          | normal => exact leaveK_ok hl tab fn t1 d1 k d1 h1 m1
          | ret => exact leaveK_ok hl tab fn t1 d1 k d1 h1 m1
          | exit id => rfl

theorem idK_eq (o : Option (AV × St)) : toKE o (fun v h n => some (v, ⟨h, n⟩)) = o := by
  cases o with
  | none => rfl
  | some p => obtain ⟨v, ⟨h, n⟩⟩ := p; rfl
theorem retK_ok (r : KR) (k : AV → T AObj → Nat → KR) (o : Option (AV × St)) : retK r k (toKE o k) = toKE (match r with | some r => some r | none => o) k := by
  cases r with
  | none => rfl
  | some p => obtain ⟨v, ⟨h, n⟩⟩ := p; rfl

theorem callK_ok (hl : LvOk lv codeF callF) (tb : Tabs) (f : FuncId) (args : List AV) (h : T AObj) (n : Nat) (k : AV → T AObj → Nat → KR) :
    callK P tb lv f args h n k = toKE (callBody P tb codeF f args ⟨h, n⟩) k := by
  have hp : (fun f args (S : St) => plainK P tb.fns lv f args S.heap S.next (fun v h n => some (v, ⟨h, n⟩))) = callPlain P tb.fns codeF := by
    funext f args S
    rw [plainK_ok hl, idK_eq]
  unfold callK callBody
  cases tb.sum.get f with
  | some g => simp only []; rw [plainK_ok hl, retK_ok]; cases g args ⟨h, n⟩ <;> rfl
  | none =>
    simp only []
    cases tb.two.get f with
    | some u => simp only []; rw [hp, plainK_ok hl, retK_ok]; cases twoF (callPlain P tb.fns codeF) f args ⟨h, n⟩ <;> rfl
    | none =>
      simp only []
      cases tb.free.get f with
      | none => exact plainK_ok hl _ _ _ _ _ _
      | some u =>
        simp only [freeF]
        cases clsds args with
        | false => exact plainK_ok hl _ _ _ _ _ _
        | true =>
          simp only []
          rw [plainK_ok hl, plainK_ok hl, idK_eq, retK_ok]
          cases freeR (callPlain P tb.fns codeF f args ⟨.leaf, 0⟩) ⟨h, n⟩ <;> rfl

/-! what a frame's size comes to -/
def NtmOk (codeF : CodeF) : Prop := ∀ ro c fr S x fr' S', codeF ro c fr S = some (x, fr', S') → fr'.ntm = fr.ntm
theorem opsF_ntm {callX : CallF} {codeF : CodeF} {ro : Option Nat} {all : List Oper} : ∀ (l : List Oper) (fr fr' : Fr) (S S' : St), opsF P callX codeF ro all l fr S = some (fr', S') → fr'.ntm = fr.ntm
  | [], fr, fr', S, S', h => by
    have : (fr', S') = (fr, S) := by simpa [opsF] using h.symm
    obtain ⟨rfl, _⟩ := Prod.mk.inj this; rfl
  | o :: l, fr, fr', S, S', h => by
    have h' : (match awanted all o fr with
      | some true => (match stepF P callX codeF ro o fr S with
        | some (v, fr', S') => (match aput fr' o.dst v with | some fr'' => opsF P callX codeF ro all l fr'' S' | none => none)
        | none => none)
      | some false => (match aput fr o.dst undefV with | some fr' => opsF P callX codeF ro all l fr' S | none => none)
      | none => none) = some (fr', S') := h
    split at h'
    · split at h'
      · rename_i v fr1 S1 es
        split at h'
        · rename_i fr2 ep
          rw [opsF_ntm l _ _ _ _ h', (aput_same ep).1, (stepF_same es).1]
        · cases h'
      · cases h'
    · split at h'
      · rename_i fr1 ep
        rw [opsF_ntm l _ _ _ _ h', (aput_same ep).1]
      · cases h'
    · cases h'
theorem one_ntm {callX : CallF} {codeF : CodeF} {ro : Option Nat} {all : List Oper} {x : POp} {d d' : DS} (h : one P callX codeF ro all x d = some d') : d'.fr.ntm = d.fr.ntm := by
  cases ew : awantedE all x.o (aevM d.fr x.mask) with
  | none => unfold one at h; rw [ew] at h; cases h
  | some w =>
    cases w with
    | true => rw [one_true ew] at h; exact oneT_ntm h
    | false =>
      unfold one at h; rw [ew] at h
      simp only [] at h
      split at h
      · rename_i fr ep
        split at h <;> (obtain rfl := Option.some.inj h; exact (aput_same ep).1)
      · cases h
theorem runP_ntm {callX : CallF} {codeF : CodeF} {ro : Option Nat} {all : List Oper} : ∀ (l : List POp) (d d' : DS), runP P callX codeF ro all l d = some d' → d'.fr.ntm = d.fr.ntm
  | [], d, d', h => by
    have : d' = d := by simpa [runP] using h.symm
    subst this; rfl
  | x :: l, d, d', h => by
    have h' : (match one P callX codeF ro all x d with | some d' => runP P callX codeF ro all l d' | none => none) = some d' := h
    split at h'
    · rename_i d1 e1
      rw [runP_ntm l _ _ h', one_ntm e1]
    · cases h'
theorem loopF_ntm {codeF : CodeF} (hn : NtmOk codeF) {ro : Option Nat} {b : Code} : ∀ (m : Nat) (fr fr' : Fr) (S S' : St) (x : AX), loopF codeF ro b m fr S = some (x, fr', S') → fr'.ntm = fr.ntm
  | 0, fr, fr', S, S', x, h => by cases h
  | m + 1, fr, fr', S, S', x, h => by
    have h' : (match codeF ro b fr S with
      | some (.normal, fr1, S1) => loopF codeF ro b m fr1 S1
      | some (.ret, fr1, S1) => some (.ret, fr1, S1)
      | some (.exit id, fr1, S1) => some (.exit id, fr1, S1)
      | none => none) = some (x, fr', S') := h
    split at h'
    · rename_i fr1 S1 e1
      rw [loopF_ntm hn m _ _ _ _ _ h', hn _ _ _ _ _ _ _ e1]
    · rename_i fr1 S1 e1
      simp only [Option.some.injEq, Prod.mk.injEq] at h'; obtain ⟨_, rfl, _⟩ := h'
      exact hn _ _ _ _ _ _ _ e1
    · rename_i id fr1 S1 e1
      simp only [Option.some.injEq, Prod.mk.injEq] at h'; obtain ⟨_, rfl, _⟩ := h'
      exact hn _ _ _ _ _ _ _ e1
    · cases h'
theorem enterF_ntm {ro : Option Nat} {fr fr1 : Fr} {ps : Array Tmp} {asg body : Code} {S S1 : St} {l : Nat} (h : enterF ro fr ps asg body S = some (l, fr1, S1)) : fr1.ntm = fr.ntm := by
  unfold enterF at h
  split at h
  · simp only [Option.some.injEq, Prod.mk.injEq] at h; obtain ⟨_, rfl, _⟩ := h; rfl
  · split at h
    · simp only [Option.some.injEq, Prod.mk.injEq] at h; obtain ⟨_, rfl, _⟩ := h; rfl
    · cases h
theorem rangeF_ntm {callF : CallF} {ro : Option Nat} {g : Operand} {ps : Array Tmp} {asg body : Code} {fr fr' : Fr} {S S' : St} {x : AX} (h : rangeF callF ro g ps asg body fr S = some (x, fr', S')) : fr'.ntm = fr.ntm := by
  unfold rangeF at h
  split at h
  · split at h
    · rename_i l fr1 S1 ee
      split at h
      · split at h
        · split at h
          · cases h
          · simp only [Option.some.injEq, Prod.mk.injEq] at h; obtain ⟨_, rfl, _⟩ := h
            exact enterF_ntm ee
          · cases h
        · cases h
      · cases h
    · cases h
  · cases h
theorem codeBody_ntm {callF : CallF} {codeF : CodeF} (hn : NtmOk codeF) : NtmOk (codeBody P ext (drawF P) callF codeF) := by
  intro ro c fr S x fr' S' h
  cases c
  case skip => simp only [codeBody, Option.some.injEq, Prod.mk.injEq] at h; obtain ⟨_, rfl, _⟩ := h; rfl
  case label l => simp only [codeBody, Option.some.injEq, Prod.mk.injEq] at h; obtain ⟨_, rfl, _⟩ := h; rfl
  case region id ops draw =>
    cases draw with
    | false =>
      simp only [codeBody] at h
      split at h
      · rename_i fr1 S1 e1
        simp only [Option.some.injEq, Prod.mk.injEq] at h; obtain ⟨_, rfl, _⟩ := h
        exact opsF_ntm _ _ _ _ _ e1
      · cases h
    | true =>
      simp only [codeBody] at h
      split at h
      · rename_i fr1 S1 e1
        simp only [Option.some.injEq, Prod.mk.injEq] at h; obtain ⟨_, rfl, _⟩ := h
        unfold drawF at e1
        split at e1
        · split at e1
          · rename_i d1 e2
            simp only [Option.some.injEq, Prod.mk.injEq] at e1; obtain ⟨rfl, _⟩ := e1
            exact runP_ntm _ _ _ e2
          · cases e1
        · cases e1
      · cases h
  case seq a b =>
    simp only [codeBody] at h
    split at h
    · rename_i fr1 S1 e1
      rw [hn _ _ _ _ _ _ _ h, hn _ _ _ _ _ _ _ e1]
    · rename_i fr1 S1 e1
      simp only [Option.some.injEq, Prod.mk.injEq] at h; obtain ⟨_, rfl, _⟩ := h; exact hn _ _ _ _ _ _ _ e1
    · rename_i id fr1 S1 e1
      simp only [Option.some.injEq, Prod.mk.injEq] at h; obtain ⟨_, rfl, _⟩ := h; exact hn _ _ _ _ _ _ _ e1
    · cases h
  case cond y t f =>
    simp only [codeBody] at h
    split at h
    · exact hn _ _ _ _ _ _ _ h
    · exact hn _ _ _ _ _ _ _ h
    · cases h
  case block id b =>
    simp only [codeBody] at h
    split at h
    · rename_i j fr1 S1 e1
      split at h <;> (simp only [Option.some.injEq, Prod.mk.injEq] at h; obtain ⟨_, rfl, _⟩ := h; exact hn _ _ _ _ _ _ _ e1)
    · rename_i fr1 S1 e1
      simp only [Option.some.injEq, Prod.mk.injEq] at h; obtain ⟨_, rfl, _⟩ := h; exact hn _ _ _ _ _ _ _ e1
    · rename_i fr1 S1 e1
      simp only [Option.some.injEq, Prod.mk.injEq] at h; obtain ⟨_, rfl, _⟩ := h; exact hn _ _ _ _ _ _ _ e1
    · cases h
  case loop b => exact loopF_ntm (b := b) hn 100000 fr fr' S S' x h
  case rangeFunc g ps asg body => exact rangeF_ntm h
  case exit id => simp only [codeBody, Option.some.injEq, Prod.mk.injEq] at h; obtain ⟨_, rfl, _⟩ := h; rfl
  case scope b => exact hn _ _ _ _ _ _ _ h
  case ret => simp only [codeBody, Option.some.injEq, Prod.mk.injEq] at h; obtain ⟨_, rfl, _⟩ := h; rfl
  all_goals cases h

theorem lvK_ok (tb : Tabs) : ∀ n, LvOk (lvK P tb n) (evalN P tb (drawF P) n).1 (evalN P tb (drawF P) n).2
  | 0 => ⟨fun _ _ _ _ _ => rfl, fun _ _ _ _ _ _ _ => rfl, fun _ _ _ _ _ _ _ h => by cases h⟩
  | n + 1 => by
    have ih := lvK_ok tb n
    refine ⟨fun f args h m k => ?_, fun ntm c ro e m kn ke => ?_, ?_⟩
    · exact callK_ok ih tb f args h m k
    · obtain ⟨h, m, d⟩ := m
      exact cC_ok ih ntm c ro e h m d kn ke
    · exact codeBody_ntm ih.ntm
end

/-- THE SECOND EVALUATOR IS THE FIRST ONE. -/
theorem runK_eq (P : Program) (tb : Tabs) (n : Nat) (f : FuncId) (args : List AV) (S : St) : runK P tb n f args S = (evalN P tb (drawF P) n).2 f args S := by
  obtain ⟨h, m⟩ := S
  unfold runK
  rw [(lvK_ok tb n).call, idK_eq]
/-- .. and so it is sound. -/
theorem runK_ok {P : Program} {ρ : Rho} [RhoOk P ρ] (hmix : P.follows .mixedOrders = true) {tb : Tabs} (hT : TabsOk P ρ tb) (n : Nat) : CallFOk P ρ (runK P tb n) := by
  intro f args S v S' h
  rw [runK_eq] at h
  exact (eval_ok hmix hT n).2 f args S v S' h
end Go.Eng
/- Engine, part 32: summaries of calls that take nothing and give what names no memory. -/
namespace Go.Eng
open Go

noncomputable def constS (v : AV) : Sum := fun args S => match args with | [] => some (v, S) | _ => none
def okConst (r : Option (AV × St)) (v : AV) : Bool := match r with | some p => beqAV p.1 v | none => false
theorem sum_const {P : Program} {ρ : Rho} {callF : CallF} (hC : CallFOk P ρ callF) {f : FuncId} {v : AV} (hv : clsdR v = true) (h : okConst (callF f [] ⟨.leaf, 0⟩) v = true) :
    CallFOk P ρ (fun f' args S => if f' = f then constS v args S else none) := by
  intro f' args S u S' hl
  simp only [] at hl
  split at hl
  · rename_i e; subst e
    unfold constS at hl
    split at hl
    · simp only [Option.some.injEq, Prod.mk.injEq] at hl
      obtain ⟨rfl, rfl⟩ := hl
      unfold okConst at h
      split at h
      · rename_i p ep
        obtain ⟨w, S1⟩ := p
        have ew : w = v := beqAV_eq _ _ h
        subst ew
        refine freeF_ok hC f' [] S w S ?_
        unfold freeF
        show freeR (callF f' [] ⟨.leaf, 0⟩) S = _
        rw [ep]
        show (match clsdR w with | true => some (w, S) | false => none) = _
        rw [hv]
      · cases h
    · cases hl
  · cases hl
theorem SumOk.leaf {P : Program} {ρ : Rho} : SumOk P ρ .leaf := fun f g h => by rw [T.get_leaf] at h; cases h
theorem SumOk.set {P : Program} {ρ : Rho} {sum : T Sum} (h : SumOk P ρ sum) {f : FuncId} {g : Sum} (hg : CallFOk P ρ (fun f' args S => if f' = f then g args S else none)) : SumOk P ρ (sum.set f g) := by
  intro f' g' h'
  rw [T.get_set] at h'
  split at h'
  · rename_i e; subst e; cases h'; exact hg
  · exact h f' g' h'

/-- the functions that have bodies -/
noncomputable def bodiesF (l : List Func) : Nat → T Func → T Func :=
  List.rec (motive := fun _ => Nat → T Func → T Func) (fun _ t => t) (fun fn _ ih i t => ih (Nat.succ i) (match fn.body with | some _ => t.set i fn | none => t)) l
noncomputable def noGor (l : List Func) : Bool := List.rec (motive := fun _ => Bool) true (fun fn _ ih => match fn.name == "runtime.NumGoroutine" with | true => false | false => ih) l
theorem noGor_ok : ∀ {l : List Func} {fn : Func}, noGor l = true → fn ∈ l → (fn.name == "runtime.NumGoroutine") = false
  | f :: l, fn, h, hm => by
    have h' : (match f.name == "runtime.NumGoroutine" with | true => false | false => noGor l) = true := h
    cases hn : f.name == "runtime.NumGoroutine" with
    | true => rw [hn] at h'; cases h'
    | false =>
      rw [hn] at h'
      rcases List.mem_cons.1 hm with rfl | hm
      · exact hn
      · exact noGor_ok h' hm
theorem bodiesF_get : ∀ (l : List Func) (i : Nat) (t : T Func) (j : Nat) (fn : Func), (bodiesF l i t).get j = some fn → (t.get j = some fn) ∨ ∃ m, j = i + m ∧ l[m]? = some fn ∧ fn.body.isSome = true
  | [], i, t, j, fn, h => .inl h
  | f :: l, i, t, j, fn, h => by
    have h' : (bodiesF l (i + 1) (match f.body with | some _ => t.set i f | none => t)).get j = some fn := h
    rcases bodiesF_get l (i + 1) _ j fn h' with h1 | ⟨m, h1, h2, h3⟩
    · cases hb : f.body with
      | none => rw [hb] at h1; exact .inl h1
      | some c =>
        rw [hb] at h1
        simp only [T.get_set] at h1
        split at h1
        · rename_i e; cases h1; exact .inr ⟨0, by omega, rfl, by rw [hb]; rfl⟩
        · exact .inl h1
    · exact .inr ⟨m + 1, by omega, by simpa using h2, h3⟩
theorem tabOk_bodies {P : Program} (h : noGor P.funcs.toList = true) : TabOk P (bodiesF P.funcs.toList 0 .leaf) := by
  intro f fn hf
  rcases bodiesF_get _ _ _ _ _ hf with h1 | ⟨m, h1, h2, h3⟩
  · rw [T.get_leaf] at h1; cases h1
  · have hm : m = f := by omega
    subst hm
    have hP : P.funcs[m]? = some fn := by simpa using h2
    refine ⟨hP, fun A w => ?_⟩
    have hn := noGor_ok h (List.mem_of_getElem? h2)
    have hn' : fn.name ≠ "runtime.NumGoroutine" := by simpa using hn
    obtain ⟨c, hc⟩ := Option.isSome_iff_exists.1 h3
    simp [callFunc, hP, hn', hc]
end Go.Eng
/- Engine, part 33: a table of closed calls, each reckoned once and for all. -/
namespace Go.Eng
open Go

noncomputable def eqB (a b : List UInt8) : Bool := List.rec (motive := fun _ => List UInt8 → Bool) (fun b => List.rec (motive := fun _ => Bool) true (fun _ _ _ => false) b) (fun x _ ih b => List.rec (motive := fun _ => Bool) false (fun y ys _ => match Nat.beq x.toNat y.toNat with | true => ih ys | false => false) b) a b
noncomputable def eqA (a b : AV) : Bool := match a, b with
  | .str s, .str t => eqB s t
  | .int k n, .int j m => decide (k = j) && decide (n = m)
  | .bool a, .bool b => a == b
  | _, _ => false
noncomputable def eqAs (a b : List AV) : Bool := List.rec (motive := fun _ => List AV → Bool) (fun b => List.rec (motive := fun _ => Bool) true (fun _ _ _ => false) b) (fun x _ ih b => List.rec (motive := fun _ => Bool) false (fun y ys _ => match eqA x y with | true => ih ys | false => false) b) a b
abbrev Tbl := T (List (List AV × AV))
noncomputable def lookL (l : List (List AV × AV)) (args : List AV) : Option AV := List.rec (motive := fun _ => Option AV) none (fun p _ ih => match eqAs args p.1 with | true => some p.2 | false => ih) l
noncomputable def hashA (args : List AV) : Nat := match args with | .str s :: _ => lenL s | _ => 0
noncomputable def tblS (t : Tbl) : Sum := fun args S => match t.get (hashA args) with | some l => (match lookL l args with | some v => some (v, S) | none => none) | none => none
/-- each entry is what the call comes to -/
noncomputable def chkL (callF : CallF) (f : FuncId) (l : List (List AV × AV)) : Bool :=
  List.rec (motive := fun _ => Bool) true (fun p _ ih => match clsds p.1, clsdR p.2, okConst (callF f p.1 ⟨.leaf, 0⟩) p.2 with | true, true, true => ih | _, _, _ => false) l

theorem eqB_eq : ∀ {a b : List UInt8}, eqB a b = true → a = b
  | [], [], _ => rfl
  | [], _ :: _, h => by cases h
  | _ :: _, [], h => by cases h
  | x :: xs, y :: ys, h => by
    have h' : (match Nat.beq x.toNat y.toNat with | true => eqB xs ys | false => false) = true := h
    cases e : Nat.beq x.toNat y.toNat with
    | false => rw [e] at h'; cases h'
    | true =>
      rw [e] at h'
      have : x = y := UInt8.toNat.inj (Nat.eq_of_beq_eq_true e)
      rw [this, eqB_eq h']
theorem eqA_eq {a b : AV} (h : eqA a b = true) : a = b := by
  unfold eqA at h
  split at h
  · rw [eqB_eq h]
  · simp only [Bool.and_eq_true, decide_eq_true_eq] at h; rw [h.1, h.2]
  · rw [eq_of_beq h]
  · cases h
theorem eqAs_eq : ∀ {a b : List AV}, eqAs a b = true → a = b
  | [], [], _ => rfl
  | [], _ :: _, h => by cases h
  | _ :: _, [], h => by cases h
  | x :: xs, y :: ys, h => by
    have h' : (match eqA x y with | true => eqAs xs ys | false => false) = true := h
    cases e : eqA x y with
    | false => rw [e] at h'; cases h'
    | true => rw [e] at h'; rw [eqA_eq e, eqAs_eq h']
theorem lookL_mem : ∀ {l : List (List AV × AV)} {args : List AV} {v : AV}, lookL l args = some v → (args, v) ∈ l
  | [], _, _, h => by cases h
  | p :: l, args, v, h => by
    have h' : (match eqAs args p.1 with | true => some p.2 | false => lookL l args) = some v := h
    cases e : eqAs args p.1 with
    | true =>
      rw [e] at h'
      have e1 := eqAs_eq e
      have e2 : p.2 = v := Option.some.inj h'
      rw [e1, ← e2]; exact List.mem_cons_self
    | false => rw [e] at h'; exact List.mem_cons_of_mem _ (lookL_mem h')
theorem chkL_mem {callF : CallF} {f : FuncId} : ∀ {l : List (List AV × AV)} {p : List AV × AV}, chkL callF f l = true → p ∈ l → clsds p.1 = true ∧ clsdR p.2 = true ∧ okConst (callF f p.1 ⟨.leaf, 0⟩) p.2 = true
  | q :: l, p, h, hm => by
    have h' : (match clsds q.1, clsdR q.2, okConst (callF f q.1 ⟨.leaf, 0⟩) q.2 with | true, true, true => chkL callF f l | _, _, _ => false) = true := h
    cases e1 : clsds q.1 <;> cases e2 : clsdR q.2 <;> cases e3 : okConst (callF f q.1 ⟨.leaf, 0⟩) q.2 <;> rw [e1, e2, e3] at h' <;> first | (cases h'; done) | skip
    rcases List.mem_cons.1 hm with rfl | hm
    · exact ⟨e1, e2, e3⟩
    · exact chkL_mem h' hm

def TblOk (callF : CallF) (f : FuncId) (t : Tbl) : Prop := ∀ k l, t.get k = some l → chkL callF f l = true
theorem TblOk.leaf {callF : CallF} {f : FuncId} : TblOk callF f .leaf := fun _ _ h => by rw [T.get_leaf] at h; cases h
theorem TblOk.set {callF : CallF} {f : FuncId} {t : Tbl} (h : TblOk callF f t) {k : Nat} {l : List (List AV × AV)} (hl : chkL callF f l = true) : TblOk callF f (t.set k l) := by
  intro k' l' h'
  rw [T.get_set] at h'
  split at h'
  · cases h'; exact hl
  · exact h k' l' h'

theorem sum_tbl {P : Program} {ρ : Rho} {callF : CallF} (hC : CallFOk P ρ callF) {f : FuncId} {t : Tbl} (ht : TblOk callF f t) :
    CallFOk P ρ (fun f' args S => if f' = f then tblS t args S else none) := by
  intro f' args S u S' hl
  simp only [] at hl
  split at hl
  · rename_i e; subst e
    unfold tblS at hl
    split at hl
    · rename_i l el
      split at hl
      · rename_i v ev
        simp only [Option.some.injEq, Prod.mk.injEq] at hl
        obtain ⟨rfl, rfl⟩ := hl
        obtain ⟨h1, h2, h3⟩ := chkL_mem (ht _ _ el) (lookL_mem ev)
        unfold okConst at h3
        split at h3
        · rename_i p ep
          obtain ⟨w, S1⟩ := p
          have ew : w = v := beqAV_eq _ _ h3
          subst ew
          refine freeF_ok hC f' args S w S ?_
          unfold freeF
          simp only [] at h1 h2 ep ⊢
          rw [h1]
          show freeR (callF f' args ⟨.leaf, 0⟩) S = _
          rw [ep]
          show (match clsdR w with | true => some (w, S) | false => none) = _
          rw [h2]
        · cases h3
      · cases hl
    · cases hl
  · cases hl
end Go.Eng
