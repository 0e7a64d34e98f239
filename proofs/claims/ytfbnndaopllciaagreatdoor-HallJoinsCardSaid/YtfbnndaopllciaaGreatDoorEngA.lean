/- An evaluator of Go code over abstract values and memory, proved sound, part A: values, memory and frames of the evaluator, and how they stand to the model's worlds. No condition but those that each theorem names. -/
import Derived.CallsIn
import Derived.Below
import Derived.Laws.Strings
import Derived.Laws.BytesString
/- Engine, part 1: a map from numbers, whose look-up and store the kernel reckons fast (recursors alone). -/
namespace Go.Eng

inductive T (α : Type) where
  | leaf
  | node (l : T α) (v : Option α) (r : T α)

namespace T
variable {α : Type}

noncomputable def get (t : T α) : Nat → Option α :=
  T.rec (motive := fun _ => Nat → Option α) (fun _ => none)
    (fun _ v _ gl gr k => Bool.rec (Bool.rec (gr (Nat.div (Nat.pred k) 2)) (gl (Nat.div (Nat.pred k) 2)) (Nat.beq (Nat.mod (Nat.pred k) 2) 0)) v (Nat.beq k 0)) t

theorem get_leaf (k : Nat) : (leaf : T α).get k = none := rfl
theorem get_node (l r : T α) (v : Option α) (k : Nat) :
    (node l v r).get k = if k = 0 then v else if (k - 1) % 2 = 0 then l.get ((k - 1) / 2) else r.get ((k - 1) / 2) := by
  cases k with
  | zero => rfl
  | succ k =>
    simp only [Nat.add_one_ne_zero, if_false, Nat.add_sub_cancel]
    show Bool.rec (motive := fun _ => Option α) (r.get (k / 2)) (l.get (k / 2)) (Nat.beq (k % 2) 0) = _
    by_cases h : k % 2 = 0
    · rw [if_pos h, h]; rfl
    · rw [if_neg h]
      have : Nat.beq (k % 2) 0 = false := by
        cases hb : Nat.beq (k % 2) 0 with
        | false => rfl
        | true => exact absurd (Nat.eq_of_beq_eq_true hb) h
      rw [this]

noncomputable def setF (n : Nat) : T α → Nat → α → T α :=
  Nat.rec (motive := fun _ => T α → Nat → α → T α) (fun t _ _ => t)
    (fun _ ih t k x => T.rec (motive := fun _ => T α)
      (Bool.rec (Bool.rec (.node .leaf none (ih .leaf (Nat.div (Nat.pred k) 2) x)) (.node (ih .leaf (Nat.div (Nat.pred k) 2) x) none .leaf) (Nat.beq (Nat.mod (Nat.pred k) 2) 0)) (.node .leaf (some x) .leaf) (Nat.beq k 0))
      (fun l v r _ _ => Bool.rec (Bool.rec (.node l v (ih r (Nat.div (Nat.pred k) 2) x)) (.node (ih l (Nat.div (Nat.pred k) 2) x) v r) (Nat.beq (Nat.mod (Nat.pred k) 2) 0)) (.node l (some x) r) (Nat.beq k 0)) t) n

noncomputable def set (t : T α) (k : Nat) (x : α) : T α := setF (Nat.succ k) t k x

theorem setF_node (n : Nat) (l r : T α) (v : Option α) (k : Nat) (x : α) :
    setF (n + 1) (node l v r) k x = if k = 0 then node l (some x) r else if (k - 1) % 2 = 0 then node (setF n l ((k - 1) / 2) x) v r else node l v (setF n r ((k - 1) / 2) x) := by
  cases k with
  | zero => rfl
  | succ k =>
    simp only [Nat.add_one_ne_zero, if_false, Nat.add_sub_cancel]
    show Bool.rec (motive := fun _ => T α) (node l v (setF n r (k / 2) x)) (node (setF n l (k / 2) x) v r) (Nat.beq (k % 2) 0) = _
    by_cases h : k % 2 = 0
    · rw [if_pos h, h]; rfl
    · rw [if_neg h]
      have : Nat.beq (k % 2) 0 = false := by
        cases hb : Nat.beq (k % 2) 0 with
        | false => rfl
        | true => exact absurd (Nat.eq_of_beq_eq_true hb) h
      rw [this]
theorem setF_leaf (n : Nat) (k : Nat) (x : α) : setF (n + 1) (leaf : T α) k x = setF (n + 1) (node leaf none leaf) k x := by
  rfl

theorem get_setF (n : Nat) : ∀ (t : T α) (k j : Nat) (x : α), k < n → (setF n t k x).get j = if j = k then some x else t.get j := by
  induction n with
  | zero => intro t k j x h; omega
  | succ n ih =>
    have key : ∀ (l r : T α) (v : Option α) (k j : Nat) (x : α), k < n + 1 → (setF (n + 1) (node l v r) k x).get j = if j = k then some x else (node l v r).get j := by
      intro l r v k j x h
      rw [setF_node, get_node]
      by_cases hk : k = 0
      · rw [if_pos hk, get_node]; subst hk
        by_cases hj : j = 0
        · simp [hj]
        · simp [hj]
      · rw [if_neg hk]
        by_cases hp : (k - 1) % 2 = 0
        · rw [if_pos hp, get_node]
          by_cases hj : j = 0
          · have : j ≠ k := by omega
            rw [if_pos hj, if_pos hj, if_neg this]
          · rw [if_neg hj, if_neg hj]
            by_cases hq : (j - 1) % 2 = 0
            · rw [if_pos hq, if_pos hq, ih _ _ _ _ (by omega)]
              by_cases hjk : j = k
              · rw [if_pos hjk, if_pos (by rw [hjk])]
              · rw [if_neg hjk, if_neg (by omega)]
            · rw [if_neg hq, if_neg hq, if_neg]
              intro hjk; subst hjk; exact hq hp
        · rw [if_neg hp, get_node]
          by_cases hj : j = 0
          · have : j ≠ k := by omega
            rw [if_pos hj, if_pos hj, if_neg this]
          · rw [if_neg hj, if_neg hj]
            by_cases hq : (j - 1) % 2 = 0
            · rw [if_pos hq, if_pos hq, if_neg]
              intro hjk; subst hjk; exact hp hq
            · rw [if_neg hq, if_neg hq, ih _ _ _ _ (by omega)]
              by_cases hjk : j = k
              · rw [if_pos hjk, if_pos (by rw [hjk])]
              · rw [if_neg hjk, if_neg (by omega)]
    intro t k j x h
    cases t with
    | leaf =>
      rw [setF_leaf, key _ _ _ _ _ _ h]
      congr 1
      rw [get_node]; simp [get_leaf]
    | node l v r => exact key _ _ _ _ _ _ h

theorem get_set (t : T α) (k j : Nat) (x : α) : (t.set k x).get j = if j = k then some x else t.get j := get_setF _ _ _ _ _ (Nat.lt_succ_self k)
theorem get_set_same (t : T α) (k : Nat) (x : α) : (t.set k x).get k = some x := by rw [get_set, if_pos rfl]
theorem get_set_other (t : T α) {k j : Nat} (x : α) (h : j ≠ k) : (t.set k x).get j = t.get j := by rw [get_set, if_neg h]
end T
end Go.Eng
/- Engine, part 2: abstract values and memory, and how they stand to the model's. -/
namespace Go.Eng
open Go

structure Blk where
  block : Nat
  base : Nat
  slack : Nat

/-- values of which not all is known: a given one; any; a slice of length 0 at the end of a row; a number that is so great at least; a small number of which the rest by m is known -/
inductive Sy where
  | val (k : Nat)
  | any
  | nought (b o : Nat)
  | atl (n : Nat)
  | res (k : IntKind) (m r : Nat)
  deriving DecidableEq

inductive AV where
  | bool (b : Bool)
  | int (k : IntKind) (n : Int)
  | str (s : List UInt8)
  | ptr (a : Option (Nat × Nat))
  | slc (a : Option (Nat × Nat)) (len cap : Nat) (loose : Bool)
  | map (r : Option Nat)
  | fn (f : Fn) (first captured : List AV)
  | nilFn
  | nilIface
  | agg (cs : List AV)
  | tup (vs : List AV)
  | sym (k : Sy)
  deriving Inhabited

abbrev Mu := Nat → Option Blk
structure Rho where
  val : Nat → Value
  isB : TypeId → Prop

def addrRel (μ : Mu) : Option (Nat × Nat) → Option Addr → Prop
  | none, a => a = none
  | some (b, o), a => ∃ k, μ b = some k ∧ a = some ⟨k.block, k.base + o, none⟩

def slcRel (μ : Mu) : Option (Nat × Nat) → Nat → Bool → Option Addr → Nat → Prop
  | none, c, _, a, c' => a = none ∧ c' = c
  | some (b, o), c, lo, a, c' => ∃ k, μ b = some k ∧ a = some ⟨k.block, k.base + o, none⟩ ∧ c' = c + (if lo then k.slack else 0)

def fnRel (μ : Mu) : Fn → Fn → Prop
  | .yield l, f => ∃ k, μ l = some k ∧ f = .yield k.block
  | g, f => f = g

def SyRel (μ : Mu) (ρ : Rho) : Sy → Value → Prop
  | .val k, V => V = ρ.val k
  | .any, _ => True
  | .nought b o, V => ∃ k a, μ b = some k ∧ V = .slice (some a) 0 k.slack ∧ (k.slack ≠ 0 → a = ⟨k.block, k.base + o, none⟩) ∧ a.block = k.block ∧ a.spot = none
  | .atl n, V => ∃ m : Nat, V = .int .i64 m ∧ n ≤ m
  | .res k m r, V => ∃ n : Nat, V = .int k n ∧ n < 256 ∧ n % m = r

mutual
def VRel (μ : Mu) (ρ : Rho) : AV → Value → Prop
  | .bool b, V => V = .bool b
  | .int k n, V => V = .int k n
  | .str s, V => V = .string ⟨s.toArray⟩
  | .ptr a, V => ∃ a', V = .pointer a' ∧ addrRel μ a a'
  | .slc a l c lo, V => ∃ a' c', V = .slice a' l c' ∧ slcRel μ a c lo a' c'
  | .map none, V => V = .map none
  | .map (some r), V => ∃ k, μ r = some k ∧ V = .map (some k.block)
  | .fn f A B, V => ∃ f' A' B', V = .func f' A' B' ∧ fnRel μ f f' ∧ VRels μ ρ A A'.toList ∧ VRels μ ρ B B'.toList
  | .nilFn, V => V = .nilFunc
  | .nilIface, V => V = .nilIface
  | .agg cs, V => ∃ A, V = .agg A ∧ VRels μ ρ cs A.toList
  | .tup cs, V => ∃ A, V = .tuple A ∧ VRels μ ρ cs A.toList
  | .sym k, V => SyRel μ ρ k V
def VRels (μ : Mu) (ρ : Rho) : List AV → List Value → Prop
  | [], L => L = []
  | v :: vs, L => ∃ V Vs, L = V :: Vs ∧ VRel μ ρ v V ∧ VRels μ ρ vs Vs
end

/-- μ' knows all that μ knows. -/
def Sub (μ μ' : Mu) : Prop := ∀ b k, μ b = some k → μ' b = some k
theorem Sub.refl (μ : Mu) : Sub μ μ := fun _ _ h => h
theorem Sub.trans {μ μ' μ'' : Mu} (h : Sub μ μ') (h' : Sub μ' μ'') : Sub μ μ'' := fun b k hk => h' b k (h b k hk)

theorem addrRel.mono {μ μ' : Mu} (h : Sub μ μ') {a : Option (Nat × Nat)} {A : Option Addr} (r : addrRel μ a A) : addrRel μ' a A := by
  cases a with
  | none => exact r
  | some p => obtain ⟨b, o⟩ := p; obtain ⟨k, hk, e⟩ := r; exact ⟨k, h _ _ hk, e⟩
theorem slcRel.mono {μ μ' : Mu} (h : Sub μ μ') {a : Option (Nat × Nat)} {c : Nat} {lo : Bool} {A : Option Addr} {C : Nat} (r : slcRel μ a c lo A C) : slcRel μ' a c lo A C := by
  cases a with
  | none => exact r
  | some p => obtain ⟨b, o⟩ := p; obtain ⟨k, hk, e⟩ := r; exact ⟨k, h _ _ hk, e⟩
theorem fnRel.mono {μ μ' : Mu} (h : Sub μ μ') {f g : Fn} (r : fnRel μ f g) : fnRel μ' f g := by
  cases f <;> first | exact r | (obtain ⟨k, hk, e⟩ := r; exact ⟨k, h _ _ hk, e⟩)

theorem SyRel.mono {μ μ' : Mu} {ρ : Rho} (h : Sub μ μ') {s : Sy} {V : Value} (r : SyRel μ ρ s V) : SyRel μ' ρ s V := by
  cases s with
  | nought b o => obtain ⟨k, a, hk, r⟩ := r; exact ⟨k, a, h _ _ hk, r⟩
  | _ => exact r

mutual
theorem VRel.mono {μ μ' : Mu} {ρ : Rho} (h : Sub μ μ') : ∀ (v : AV) (V : Value), VRel μ ρ v V → VRel μ' ρ v V
  | .bool b, V, r => by simp only [VRel] at *; exact r
  | .int k n, V, r => by simp only [VRel] at *; exact r
  | .str s, V, r => by simp only [VRel] at *; exact r
  | .ptr a, V, r => by simp only [VRel] at *; obtain ⟨a', e, r⟩ := r; exact ⟨a', e, r.mono h⟩
  | .slc a l c lo, V, r => by simp only [VRel] at *; obtain ⟨a', c', e, r⟩ := r; exact ⟨a', c', e, r.mono h⟩
  | .map none, V, r => by simp only [VRel] at *; exact r
  | .map (some m), V, r => by simp only [VRel] at *; obtain ⟨k, e, r⟩ := r; exact ⟨k, h _ _ e, r⟩
  | .fn f A B, V, r => by simp only [VRel] at *; obtain ⟨f', A', B', e, r1, r2, r3⟩ := r; exact ⟨f', A', B', e, r1.mono h, VRels.mono h _ _ r2, VRels.mono h _ _ r3⟩
  | .nilFn, V, r => by simp only [VRel] at *; exact r
  | .nilIface, V, r => by simp only [VRel] at *; exact r
  | .agg cs, V, r => by simp only [VRel] at *; obtain ⟨A, e, r⟩ := r; exact ⟨A, e, VRels.mono h _ _ r⟩
  | .tup cs, V, r => by simp only [VRel] at *; obtain ⟨A, e, r⟩ := r; exact ⟨A, e, VRels.mono h _ _ r⟩
  | .sym k, V, r => by simp only [VRel] at *; exact r.mono h
theorem VRels.mono {μ μ' : Mu} {ρ : Rho} (h : Sub μ μ') : ∀ (vs : List AV) (Vs : List Value), VRels μ ρ vs Vs → VRels μ' ρ vs Vs
  | [], Vs, r => by simp only [VRels] at *; exact r
  | v :: vs, Vs, r => by simp only [VRels] at *; obtain ⟨V, Ws, e, r1, r2⟩ := r; exact ⟨V, Ws, e, VRel.mono h _ _ r1, VRels.mono h _ _ r2⟩
end

section lists
variable {μ : Mu} {ρ : Rho}
theorem VRels.nil : VRels μ ρ [] [] := by simp [VRels]
theorem VRels.cons {v : AV} {V : Value} {vs : List AV} {Vs : List Value} (h : VRel μ ρ v V) (hs : VRels μ ρ vs Vs) : VRels μ ρ (v :: vs) (V :: Vs) := by
  simp only [VRels]; exact ⟨V, Vs, rfl, h, hs⟩
theorem VRels.nil_inv {Vs : List Value} (h : VRels μ ρ [] Vs) : Vs = [] := by simpa [VRels] using h
theorem VRels.cons_inv {v : AV} {vs : List AV} {Vs : List Value} (h : VRels μ ρ (v :: vs) Vs) : ∃ V Ws, Vs = V :: Ws ∧ VRel μ ρ v V ∧ VRels μ ρ vs Ws := by
  simpa only [VRels] using h
theorem VRels.length : ∀ {vs : List AV} {Vs : List Value}, VRels μ ρ vs Vs → Vs.length = vs.length
  | [], _, h => by simp [VRels.nil_inv h]
  | _ :: _, _, h => by obtain ⟨V, Ws, rfl, _, h2⟩ := VRels.cons_inv h; simp [VRels.length h2]
theorem VRels.append : ∀ {vs : List AV} {Vs : List Value} {us : List AV} {Us : List Value}, VRels μ ρ vs Vs → VRels μ ρ us Us → VRels μ ρ (vs ++ us) (Vs ++ Us)
  | [], _, _, _, h, h' => by rw [VRels.nil_inv h]; exact h'
  | _ :: _, _, _, _, h, h' => by obtain ⟨V, Ws, rfl, h1, h2⟩ := VRels.cons_inv h; exact VRels.cons h1 (VRels.append h2 h')
theorem VRels.get : ∀ {vs : List AV} {Vs : List Value} {i : Nat} {v : AV}, VRels μ ρ vs Vs → vs[i]? = some v → ∃ V, Vs[i]? = some V ∧ VRel μ ρ v V
  | [], _, i, v, _, hv => by simp at hv
  | _ :: _, _, 0, v, h, hv => by obtain ⟨V, Ws, rfl, h1, _⟩ := VRels.cons_inv h; simp at hv; subst hv; exact ⟨V, by simp, h1⟩
  | _ :: _, _, i + 1, v, h, hv => by obtain ⟨V, Ws, rfl, _, h2⟩ := VRels.cons_inv h; simp at hv; obtain ⟨U, hU, r⟩ := VRels.get h2 hv; exact ⟨U, by simpa using hU, r⟩
theorem VRels.take : ∀ {vs : List AV} {Vs : List Value} (n : Nat), VRels μ ρ vs Vs → VRels μ ρ (vs.take n) (Vs.take n)
  | [], _, n, h => by rw [VRels.nil_inv h]; simp [VRels.nil]
  | _ :: _, _, 0, h => by simp [VRels.nil]
  | _ :: _, _, n + 1, h => by obtain ⟨V, Ws, rfl, h1, h2⟩ := VRels.cons_inv h; simp only [List.take_succ_cons]; exact VRels.cons h1 (VRels.take n h2)
theorem VRels.drop : ∀ {vs : List AV} {Vs : List Value} (n : Nat), VRels μ ρ vs Vs → VRels μ ρ (vs.drop n) (Vs.drop n)
  | [], _, n, h => by rw [VRels.nil_inv h]; simp [VRels.nil]
  | _ :: _, _, 0, h => by simpa using h
  | _ :: _, _, n + 1, h => by obtain ⟨V, Ws, rfl, h1, h2⟩ := VRels.cons_inv h; simp only [List.drop_succ_cons]; exact VRels.drop n h2
theorem VRels.set : ∀ {vs : List AV} {Vs : List Value} (n : Nat) {v : AV} {V : Value}, VRels μ ρ vs Vs → VRel μ ρ v V → VRels μ ρ (vs.set n v) (Vs.set n V)
  | [], _, n, _, _, h, _ => by rw [VRels.nil_inv h]; simp [VRels.nil]
  | _ :: _, _, 0, _, _, h, hv => by obtain ⟨V, Ws, rfl, h1, h2⟩ := VRels.cons_inv h; simp only [List.set_cons_zero]; exact VRels.cons hv h2
  | _ :: _, _, n + 1, _, _, h, hv => by obtain ⟨V, Ws, rfl, h1, h2⟩ := VRels.cons_inv h; simp only [List.set_cons_succ]; exact VRels.cons h1 (VRels.set n h2 hv)
theorem VRels.replicate {v : AV} {V : Value} (h : VRel μ ρ v V) : ∀ n, VRels μ ρ (List.replicate n v) (List.replicate n V)
  | 0 => by simp [VRels.nil]
  | n + 1 => by simp only [List.replicate_succ]; exact VRels.cons h (VRels.replicate h n)
end lists
end Go.Eng
/- Engine, part 2a: values that are the same. -/
namespace Go.Eng
open Go
mutual
def beqAV : AV → AV → Bool
  | .bool a, .bool b => a == b
  | .int k n, .int j m => decide (k = j) && decide (n = m)
  | .str s, .str t => decide (s = t)
  | .ptr a, .ptr b => decide (a = b)
  | .slc a l c lo, .slc a' l' c' lo' => decide (a = a') && decide (l = l') && decide (c = c') && (lo == lo')
  | .map a, .map b => decide (a = b)
  | .fn (.func f) A B, .fn (.func g) A' B' => decide (f = g) && beqAVs A A' && beqAVs B B'
  | .fn (.yield f) A B, .fn (.yield g) A' B' => decide (f = g) && beqAVs A A' && beqAVs B B'
  | .nilFn, .nilFn => true
  | .nilIface, .nilIface => true
  | .agg a, .agg b => beqAVs a b
  | .tup a, .tup b => beqAVs a b
  | .sym a, .sym b => decide (a = b)
  | _, _ => false
def beqAVs : List AV → List AV → Bool
  | [], [] => true
  | a :: as, b :: bs => beqAV a b && beqAVs as bs
  | _, _ => false
end

mutual
theorem beqAV_eq : ∀ (a b : AV), beqAV a b = true → a = b
  | .bool a, b, h => by cases b <;> simp_all [beqAV]
  | .int k n, b, h => by cases b <;> simp_all [beqAV]
  | .str s, b, h => by cases b <;> simp_all [beqAV]
  | .ptr a, b, h => by cases b <;> simp_all [beqAV]
  | .slc a l c lo, b, h => by cases b <;> simp_all [beqAV]
  | .map a, b, h => by cases b <;> simp_all [beqAV]
  | .fn (.func f) A B, b, h => by
    cases b with
    | fn g A' B' =>
      cases g with
      | func g =>
        simp only [beqAV, Bool.and_eq_true, decide_eq_true_eq] at h
        rw [h.1.1, beqAVs_eq A A' h.1.2, beqAVs_eq B B' h.2]
      | _ => simp [beqAV] at h
    | _ => simp [beqAV] at h
  | .fn (.yield f) A B, b, h => by
    cases b with
    | fn g A' B' =>
      cases g with
      | yield g =>
        simp only [beqAV, Bool.and_eq_true, decide_eq_true_eq] at h
        rw [h.1.1, beqAVs_eq A A' h.1.2, beqAVs_eq B B' h.2]
      | _ => simp [beqAV] at h
    | _ => simp [beqAV] at h
  | .nilFn, b, h => by cases b <;> simp_all [beqAV]
  | .nilIface, b, h => by cases b <;> simp_all [beqAV]
  | .agg a, b, h => by
    cases b with
    | agg b => simp only [beqAV] at h; rw [beqAVs_eq a b h]
    | _ => simp [beqAV] at h
  | .tup a, b, h => by
    cases b with
    | tup b => simp only [beqAV] at h; rw [beqAVs_eq a b h]
    | _ => simp [beqAV] at h
  | .sym a, b, h => by cases b <;> simp_all [beqAV]
theorem beqAVs_eq : ∀ (a b : List AV), beqAVs a b = true → a = b
  | [], b, h => by cases b <;> simp_all [beqAVs]
  | x :: xs, b, h => by
    cases b with
    | nil => simp [beqAVs] at h
    | cons y ys => simp only [beqAVs, Bool.and_eq_true] at h; rw [beqAV_eq x y h.1, beqAVs_eq xs ys h.2]
end

end Go.Eng
/- Engine, part 2b: the temporaries of a frame: three levels of eight. -/
namespace Go.Eng
open Go

def undefV : AV := .tup []

structure V8 (α : Type) where
  a : α
  b : α
  c : α
  d : α
  e : α
  f : α
  g : α
  h : α
namespace V8
variable {α : Type}
def sel (v : V8 α) : Nat → α
  | 0 => v.a
  | 1 => v.b
  | 2 => v.c
  | 3 => v.d
  | 4 => v.e
  | 5 => v.f
  | 6 => v.g
  | _ => v.h
def upd (v : V8 α) (x : α) : Nat → V8 α
  | 0 => ⟨x, v.b, v.c, v.d, v.e, v.f, v.g, v.h⟩
  | 1 => ⟨v.a, x, v.c, v.d, v.e, v.f, v.g, v.h⟩
  | 2 => ⟨v.a, v.b, x, v.d, v.e, v.f, v.g, v.h⟩
  | 3 => ⟨v.a, v.b, v.c, x, v.e, v.f, v.g, v.h⟩
  | 4 => ⟨v.a, v.b, v.c, v.d, x, v.f, v.g, v.h⟩
  | 5 => ⟨v.a, v.b, v.c, v.d, v.e, x, v.g, v.h⟩
  | 6 => ⟨v.a, v.b, v.c, v.d, v.e, v.f, x, v.h⟩
  | _ => ⟨v.a, v.b, v.c, v.d, v.e, v.f, v.g, x⟩
def all (x : α) : V8 α := ⟨x, x, x, x, x, x, x, x⟩
theorem sel_all (x : α) (i : Nat) : (all x).sel i = x := by
  match i with
  | 0 | 1 | 2 | 3 | 4 | 5 | 6 => rfl
  | n + 7 => rfl
theorem sel_upd (v : V8 α) (x : α) (i j : Nat) (hi : i < 8) (hj : j < 8) : (v.upd x i).sel j = if j = i then x else v.sel j := by
  match i, j with
  | 0, 0 | 0, 1 | 0, 2 | 0, 3 | 0, 4 | 0, 5 | 0, 6 | 0, 7
  | 1, 0 | 1, 1 | 1, 2 | 1, 3 | 1, 4 | 1, 5 | 1, 6 | 1, 7
  | 2, 0 | 2, 1 | 2, 2 | 2, 3 | 2, 4 | 2, 5 | 2, 6 | 2, 7
  | 3, 0 | 3, 1 | 3, 2 | 3, 3 | 3, 4 | 3, 5 | 3, 6 | 3, 7
  | 4, 0 | 4, 1 | 4, 2 | 4, 3 | 4, 4 | 4, 5 | 4, 6 | 4, 7
  | 5, 0 | 5, 1 | 5, 2 | 5, 3 | 5, 4 | 5, 5 | 5, 6 | 5, 7
  | 6, 0 | 6, 1 | 6, 2 | 6, 3 | 6, 4 | 6, 5 | 6, 6 | 6, 7
  | 7, 0 | 7, 1 | 7, 2 | 7, 3 | 7, 4 | 7, 5 | 7, 6 | 7, 7 => simp [upd, sel]
  | n + 8, _ => omega
  | _, n + 8 => omega
end V8

abbrev ET := V8 (V8 (V8 AV))
def ET.at (t : ET) (i : Nat) : AV := if i < 512 then ((t.sel (i / 64)).sel (i / 8 % 8)).sel (i % 8) else undefV
def ET.set (t : ET) (i : Nat) (x : AV) : ET := t.upd ((t.sel (i / 64)).upd (((t.sel (i / 64)).sel (i / 8 % 8)).upd x (i % 8)) (i / 8 % 8)) (i / 64)
def ET.emp : ET := V8.all (V8.all (V8.all undefV))
theorem ET.at_emp (i : Nat) : ET.emp.at i = undefV := by
  unfold ET.at ET.emp
  rw [V8.sel_all, V8.sel_all, V8.sel_all]; simp
theorem ET.at_set (t : ET) (k j : Nat) (x : AV) (h : k < 512) : (t.set k x).at j = if j = k then x else t.at j := by
  unfold ET.at ET.set
  by_cases hj : j < 512
  · rw [if_pos hj, if_pos hj]
    rw [V8.sel_upd _ _ _ _ (by omega) (by omega)]
    by_cases h1 : j / 64 = k / 64
    · rw [if_pos h1, V8.sel_upd _ _ _ _ (by omega) (by omega)]
      by_cases h2 : j / 8 % 8 = k / 8 % 8
      · rw [if_pos h2, V8.sel_upd _ _ _ _ (by omega) (by omega)]
        by_cases h3 : j % 8 = k % 8
        · rw [if_pos h3, if_pos (by omega)]
        · rw [if_neg h3, if_neg (by omega), h1, h2]
      · rw [if_neg h2, if_neg (by omega), h1]
    · rw [if_neg h1, if_neg (by omega)]
  · rw [if_neg hj, if_neg hj, if_neg (by omega)]
theorem ET.at_same (t : ET) (k : Nat) (x : AV) (h : k < 512) : (t.set k x).at k = x := by rw [ET.at_set _ _ _ _ h, if_pos rfl]
theorem ET.at_other (t : ET) {k j : Nat} (x : AV) (h : k < 512) (hj : j ≠ k) : (t.set k x).at j = t.at j := by rw [ET.at_set _ _ _ _ h, if_neg hj]

/-- as many as a frame may have -/
def lim (n : Nat) : Nat := match Nat.ble n 512 with | true => n | false => 512
theorem lim_ok {d n : Nat} (h : Nat.ble (Nat.succ d) (lim n) = true) : d < n ∧ d < 512 := by
  have h := Nat.le_of_ble_eq_true h
  unfold lim at h
  split at h
  · rename_i hb; have := Nat.le_of_ble_eq_true hb; omega
  · rename_i hb
    have : ¬ n ≤ 512 := fun h' => by rw [Nat.ble_eq_true_of_le h'] at hb; cases hb
    omega
theorem lim_le {d n : Nat} (h : Nat.ble d (lim n) = true) : d ≤ n ∧ d ≤ 512 := by
  have h := Nat.le_of_ble_eq_true h
  unfold lim at h
  split at h
  · rename_i hb; have := Nat.le_of_ble_eq_true hb; omega
  · rename_i hb
    have : ¬ n ≤ 512 := fun h' => by rw [Nat.ble_eq_true_of_le h'] at hb; cases hb
    omega
end Go.Eng
/- Engine, part 3: the relation of memories; reading, storing, new blocks. -/
namespace Go.Eng
open Go

structure ALoop where
  state : LoopState
  pending : Option Code
  tmps : ET
  ntm : Nat
  params : Array Tmp
  assign : Code
  body : Code
  defers : Nat

inductive AObj where
  | row (cells : List AV) (elem : TypeId) (esz : Nat)
  | map (es : List (AV × AV × Nat)) (clock : Nat)
  | loop (r : ALoop)
  | dfr (taken : Bool)
  | dead

def AObj.live : AObj → Bool
  | .dead => false
  | _ => true


/-- The temporaries of a frame. -/
def TRel (μ : Mu) (ρ : Rho) (t : ET) (n : Nat) (A : Array Value) : Prop :=
  A.size = n ∧ ∀ i, i < n → ∃ V, A[i]? = some V ∧ VRel μ ρ (t.at i) V

def ERels (μ : Mu) (ρ : Rho) : List (AV × AV × Nat) → List MapEntry → Prop
  | [], L => L = []
  | e :: es, L => ∃ E Es, L = E :: Es ∧ VRel μ ρ e.1 E.key ∧ VRel μ ρ e.2.1 E.val ∧ E.born = e.2.2 ∧ ERels μ ρ es Es

def freeOf (n : Nat) (fz : Nat × Nat) : Prop := fz.1 ≤ fz.2 ∧ ∀ i, i < n → ¬ (fz.1 ≤ i ∧ i < fz.2)

/-- the rest of a row's block; where a row's cells have no size of their own, the row is the block -/
def tailOk (ρ : Rho) (elem : TypeId) (esz : Nat) (k : Blk) (n : Nat) (fz : Nat × Nat) : Prop := freeOf n fz ∧ (esz = 0 → k.base = 0) ∧ (fz = (0, 0) ∨ ρ.isB elem)

/-- ρ knows which type is that of bytes: only a row of these has a mark of a string behind its end -/
class RhoOk (P : Program) (ρ : Rho) : Prop where
  ok : ∀ e, ρ.isB e ↔ P.underlying e = some (.int .u8)

def LRel (μ : Mu) (ρ : Rho) (r : ALoop) (L : Loop) : Prop :=
  L.state = r.state ∧ L.pending = r.pending ∧ TRel μ ρ r.tmps r.ntm L.tmps ∧ L.params = r.params ∧ L.assign = r.assign ∧ L.body = r.body ∧ ∃ k, μ r.defers = some k ∧ L.defers = k.block

def ORel (μ : Mu) (ρ : Rho) (k : Blk) : AObj → Option Obj → Prop
  | .row cells elem esz, O => ∃ pre mid post fz, O = some (.cells (pre ++ mid ++ post).toArray elem fz) ∧ pre.length = k.base ∧ VRels μ ρ cells mid ∧ post.length = k.slack * esz ∧ tailOk ρ elem esz k (pre ++ mid ++ post).length fz
  | .map es clock, O => ∃ ES, O = some (.map ES clock) ∧ ERels μ ρ es ES.toList
  | .loop r, O => ∃ L, O = some (.loop L) ∧ LRel μ ρ r L
  | .dfr t, O => O = some (.deferred (if t then none else some []))
  | .dead, _ => True

structure HRel (μ : Mu) (ρ : Rho) (S : T AObj) (w : World) : Prop where
  obj : ∀ b o, S.get b = some o → o.live = true → ∃ k, μ b = some k ∧ ORel μ ρ k o w.heap[k.block]?
  inj : ∀ b b' o o' k k', S.get b = some o → o.live = true → S.get b' = some o' → o'.live = true → μ b = some k → μ b' = some k' → k.block = k'.block → b = b'

/-- Block B is one of those that the abstract memory tells of. -/
def tracked (S : T AObj) (μ : Mu) (B : Nat) : Prop := ∃ b o k, S.get b = some o ∧ o.live = true ∧ μ b = some k ∧ k.block = B

structure Ext (μ : Mu) (S : T AObj) (w : World) (μ' : Mu) (S' : T AObj) (w' : World) : Prop where
  os : w'.os = w.os
  tape : w'.tape = w.tape
  output : w'.output = w.output
  size : w.heap.size ≤ w'.heap.size
  frame : ∀ B, B < w.heap.size → ¬ tracked S μ B → w'.heap[B]? = w.heap[B]?
  tr : ∀ B, tracked S' μ' B → tracked S μ B ∨ w.heap.size ≤ B

theorem Ext.refl (μ : Mu) (S : T AObj) (w : World) : Ext μ S w μ S w := ⟨rfl, rfl, rfl, Nat.le_refl _, fun _ _ _ => rfl, fun _ h => .inl h⟩
theorem Ext.trans {μ μ' μ'' : Mu} {S S' S'' : T AObj} {w w' w'' : World} (h : Ext μ S w μ' S' w') (g : Ext μ' S' w' μ'' S'' w'') : Ext μ S w μ'' S'' w'' :=
  ⟨g.os.trans h.os, g.tape.trans h.tape, g.output.trans h.output, Nat.le_trans h.size g.size,
   fun B hB ht => (g.frame B (Nat.lt_of_lt_of_le hB h.size) (fun t => (h.tr B t).elim ht (by omega))).trans (h.frame B hB ht),
   fun B t => (g.tr B t).elim (fun t => h.tr B t) (fun hB => .inr (Nat.le_trans h.size hB))⟩

section mono
variable {μ μ' : Mu} {ρ : Rho}
theorem TRel.mono (h : Sub μ μ') {t : ET} {n : Nat} {A : Array Value} (r : TRel μ ρ t n A) : TRel μ' ρ t n A :=
  ⟨r.1, fun i hi => let ⟨V, e, v⟩ := r.2 i hi; ⟨V, e, VRel.mono h _ _ v⟩⟩
theorem ERels.mono (h : Sub μ μ') : ∀ {es : List (AV × AV × Nat)} {L : List MapEntry}, ERels μ ρ es L → ERels μ' ρ es L
  | [], _, r => r
  | _ :: _, _, r => by obtain ⟨E, Es, e, r1, r2, r3, r4⟩ := r; exact ⟨E, Es, e, VRel.mono h _ _ r1, VRel.mono h _ _ r2, r3, ERels.mono h r4⟩
theorem LRel.mono (h : Sub μ μ') {r : ALoop} {L : Loop} (l : LRel μ ρ r L) : LRel μ' ρ r L := by
  obtain ⟨a, b, d, e, f, g, k, hk, i⟩ := l; exact ⟨a, b, d.mono h, e, f, g, k, h _ _ hk, i⟩
theorem ORel.mono (h : Sub μ μ') {k : Blk} {o : AObj} {O : Option Obj} (r : ORel μ ρ k o O) : ORel μ' ρ k o O := by
  cases o with
  | row cells elem esz => obtain ⟨pre, mid, post, fz, e, a, b, c, d⟩ := r; exact ⟨pre, mid, post, fz, e, a, VRels.mono h _ _ b, c, d⟩
  | map es clock => obtain ⟨ES, e, a⟩ := r; exact ⟨ES, e, a.mono h⟩
  | loop r' => obtain ⟨L, e, a⟩ := r; exact ⟨L, e, a.mono h⟩
  | dfr t => exact r
  | dead => trivial
end mono

theorem ORel.some {μ : Mu} {ρ : Rho} {k : Blk} {o : AObj} {O : Option Obj} (h : ORel μ ρ k o O) (hl : o.live = true) : ∃ x, O = some x := by
  cases o with
  | row cells elem esz => obtain ⟨pre, mid, post, fz, e, _⟩ := h; exact ⟨_, e⟩
  | map es clock => obtain ⟨ES, e, _⟩ := h; exact ⟨_, e⟩
  | loop r' => obtain ⟨L, e, _⟩ := h; exact ⟨_, e⟩
  | dfr t => exact ⟨_, h⟩
  | dead => simp [AObj.live] at hl

theorem HRel.lt {μ : Mu} {ρ : Rho} {S : T AObj} {w : World} (h : HRel μ ρ S w) {B : Nat} (t : tracked S μ B) : B < w.heap.size := by
  obtain ⟨b, o, k, hb, hl, hk, rfl⟩ := t
  obtain ⟨k', hk', r⟩ := h.obj b o hb hl
  rw [hk] at hk'; cases hk'
  obtain ⟨x, hx⟩ := r.some hl
  rcases Nat.lt_or_ge k.block w.heap.size with hlt | hge
  · exact hlt
  · rw [Array.getElem?_eq_none hge] at hx; cases hx

/-- Another world that holds the same in all tracked blocks, and knows more. -/
theorem HRel.keep {μ μ' : Mu} {ρ : Rho} {S : T AObj} {w w' : World} (h : HRel μ ρ S w) (hs : Sub μ μ') (hw : ∀ B, tracked S μ B → w'.heap[B]? = w.heap[B]?) : HRel μ' ρ S w' where
  obj b o hb hl := by
    obtain ⟨k, hk, r⟩ := h.obj b o hb hl
    refine ⟨k, hs _ _ hk, ?_⟩
    rw [hw _ ⟨b, o, k, hb, hl, hk, rfl⟩]; exact r.mono hs
  inj b b' o o' k k' hb hl hb' hl' hk hk' e := by
    obtain ⟨j, hj, _⟩ := h.obj b o hb hl
    obtain ⟨j', hj', _⟩ := h.obj b' o' hb' hl'
    have e1 := hs _ _ hj; rw [hk] at e1; cases e1
    have e2 := hs _ _ hj'; rw [hk'] at e2; cases e2
    exact h.inj b b' o o' k k' hb hl hb' hl' hj hj' e

/-- μ with one more. -/
def Mu.put (μ : Mu) (b : Nat) (k : Blk) : Mu := fun x => if x = b then some k else μ x
theorem Mu.put_same (μ : Mu) (b : Nat) (k : Blk) : μ.put b k b = some k := if_pos rfl
theorem Mu.put_other (μ : Mu) {b x : Nat} (k : Blk) (h : x ≠ b) : μ.put b k x = μ x := if_neg h
theorem Mu.sub_put {μ : Mu} {b : Nat} (k : Blk) (h : μ b = none) : Sub μ (μ.put b k) := fun x j hx => by
  rw [Mu.put_other]
  · exact hx
  · rintro rfl; rw [h] at hx; cases hx

/-- A new object in a new block. -/
theorem HRel.new {μ : Mu} {ρ : Rho} {S : T AObj} {w w' : World} (h : HRel μ ρ S w) {b : Nat} {o : AObj} {k : Blk} (hm : μ b = none ∨ μ b = some k) (hk : k.block ≥ w.heap.size)
    (hw : ∀ B, B < w.heap.size → w'.heap[B]? = w.heap[B]?) (hS : ∀ o, S.get b = some o → o.live = false) (ho : ORel (μ.put b k) ρ k o w'.heap[k.block]?) : HRel (μ.put b k) ρ (S.set b o) w' := by
  have hs : Sub μ (μ.put b k) := by
    intro x j hx
    by_cases hxb : x = b
    · subst hxb; rcases hm with hm | hm
      · rw [hm] at hx; cases hx
      · rw [hm] at hx; cases hx; exact Mu.put_same _ _ _
    · rw [Mu.put_other _ _ hxb]; exact hx
  have h' := h.keep (w' := w') hs (fun B t => hw B (h.lt t))
  constructor
  · intro x ox hx hl
    rw [T.get_set] at hx
    split at hx
    · rename_i e; subst e; cases hx; exact ⟨k, Mu.put_same _ _ _, ho⟩
    · exact h'.obj x ox hx hl
  · intro x x' ox ox' kx kx' hx hl hx' hl' hkx hkx' e
    rw [T.get_set] at hx hx'
    have old : ∀ y oy ky, y ≠ b → S.get y = some oy → oy.live = true → (μ.put b k) y = some ky → ky.block < w.heap.size := by
      intro y oy ky hy hgy hly hky
      rw [Mu.put_other _ _ hy] at hky
      exact h.lt ⟨y, oy, ky, hgy, hly, hky, rfl⟩
    split at hx
    · rename_i e1; subst e1
      split at hx'
      · rename_i e2; exact e2.symm
      · rename_i e2
        have := old x' ox' kx' e2 hx' hl' hkx'
        rw [Mu.put_same] at hkx; cases hkx; omega
    · rename_i e1
      split at hx'
      · rename_i e2; subst e2
        have := old x ox kx e1 hx hl hkx
        rw [Mu.put_same] at hkx'; cases hkx'; omega
      · exact h'.inj x x' ox ox' kx kx' hx hl hx' hl' hkx hkx' e

/-- A tracked object turned in place. -/
theorem HRel.turn {μ : Mu} {ρ : Rho} {S : T AObj} {w w' : World} (h : HRel μ ρ S w) {b : Nat} {o o' : AObj} {k : Blk} (hb : S.get b = some o) (hl : o.live = true) (hk : μ b = some k)
    (hw : ∀ B, B ≠ k.block → w'.heap[B]? = w.heap[B]?) (ho : ORel μ ρ k o' w'.heap[k.block]?) : HRel μ ρ (S.set b o') w' := by
  constructor
  · intro x ox hx hlx
    rw [T.get_set] at hx
    split at hx
    · rename_i e; subst e; cases hx; exact ⟨k, hk, ho⟩
    · rename_i e
      obtain ⟨kx, hkx, r⟩ := h.obj x ox hx hlx
      refine ⟨kx, hkx, ?_⟩
      rw [hw kx.block (fun e' => e (h.inj x b ox o kx k hx hlx hb hl hkx hk e'))]; exact r
  · intro x x' ox ox' kx kx' hx hlx hx' hlx' hkx hkx' e
    rw [T.get_set] at hx hx'
    split at hx
    · rename_i e1; subst e1
      split at hx'
      · rename_i e2; exact e2.symm
      · exact h.inj x x' o ox' kx kx' hb hl hx' hlx' hkx hkx' e
    · split at hx'
      · rename_i e2; subst e2; exact h.inj x x' ox o kx kx' hx hlx hb hl hkx hkx' e
      · exact h.inj x x' ox ox' kx kx' hx hlx hx' hlx' hkx hkx' e
end Go.Eng
/- Engine, part 4: reading and storing cells in the model's memory. -/
namespace Go.Eng
open Go

theorem add_mk (B o i : Nat) : (⟨B, o, none⟩ : Addr).add i = ⟨B, o + i, none⟩ := by
  unfold Addr.add; split
  · subst i; rfl
  · rfl

theorem cell_of {w : World} {B off : Nat} {C : Array Value} {e : TypeId} {fz : Nat × Nat} (h : w.heap[B]? = some (.cells C e fz)) : w.cell? ⟨B, off, none⟩ = C[off]? := by
  simp [World.cell?, h]
theorem frozen_of {w : World} {B off : Nat} {C : Array Value} {e : TypeId} {fz : Nat × Nat} (h : w.heap[B]? = some (.cells C e fz)) : w.frozen? ⟨B, off, none⟩ = (decide (fz.1 ≤ off) && decide (off < fz.2)) := by
  simp [World.frozen?, h]

theorem run_loadFrom {P : Program} {w : World} {B o : Nat} {C : Array Value} {e : TypeId} {fz : Nat × Nat} (h : w.heap[B]? = some (.cells C e fz)) :
    ∀ (n i : Nat) (acc : Array Value), o + i + n ≤ C.size → (loadCellsFrom ⟨B, o, none⟩ i n acc).run P w = .ok (acc ++ ((C.toList.drop (o + i)).take n).toArray) w
  | 0, i, acc, _ => by simp [loadCellsFrom]
  | n + 1, i, acc, hn => by
    have hlt : o + i < C.size := by omega
    have hc : w.cell? ⟨B, o + i, none⟩ = some C[o + i] := by rw [cell_of h]; simp [hlt]
    have ih := run_loadFrom (P := P) (o := o) h n (i + 1) (acc.push C[o + i]) (by omega)
    simp only [loadCellsFrom, Sem.run_bind, run_load, add_mk, hc, Result.andThen_ok]
    rw [ih]
    congr 1
    have hd : C.toList.drop (o + i) = C[o + i] :: C.toList.drop (o + (i + 1)) := by
      rw [List.drop_eq_getElem_cons (by simpa using hlt)]; simp [Nat.add_assoc]
    rw [hd, List.take_succ_cons]
    apply Array.ext'
    simp
theorem run_loadN {P : Program} {w : World} {B o : Nat} {C : Array Value} {e : TypeId} {fz : Nat × Nat} (h : w.heap[B]? = some (.cells C e fz)) {n : Nat} (hn : o + n ≤ C.size) :
    (loadCells ⟨B, o, none⟩ n).run P w = .ok ((C.toList.drop o).take n).toArray w := by
  unfold loadCells
  rw [run_loadFrom h n 0 #[] (by omega)]
  simp

/-- w with block B turned. -/
def putC (w : World) (B : Nat) (O : Obj) : World := { w with heap := w.heap.setIfInBounds B O }
theorem putC_same {w : World} {B : Nat} {O : Obj} (h : B < w.heap.size) : (putC w B O).heap[B]? = some O := by simp [putC, h]
theorem putC_other {w : World} {B X : Nat} {O : Obj} (h : X ≠ B) : (putC w B O).heap[X]? = w.heap[X]? := by
  simp [putC, Ne.symm h]
theorem putC_size {w : World} {B : Nat} {O : Obj} : (putC w B O).heap.size = w.heap.size := by simp [putC]
theorem putC_putC {w : World} {B : Nat} {O O' : Obj} : putC (putC w B O) B O' = putC w B O' := by
  simp [putC]
theorem putC_id {w : World} {B : Nat} {O : Obj} (h : w.heap[B]? = some O) : putC w B O = w := by
  obtain ⟨hlt, e⟩ := Array.getElem?_eq_some_iff.1 h
  have : w.heap.setIfInBounds B O = w.heap := by
    apply Array.ext_getElem?
    intro i
    rw [Array.getElem?_setIfInBounds]
    split
    · rename_i e'; subst e'; rw [h]
    · rfl
  simp [putC, this]

theorem setCell_eq {w : World} {B off : Nat} {C : Array Value} {e : TypeId} {fz : Nat × Nat} {v : Value} (h : w.heap[B]? = some (.cells C e fz)) :
    w.setCell ⟨B, off, none⟩ v = putC w B (.cells (C.setIfInBounds off v) e fz) := by
  obtain ⟨hlt, he⟩ := Array.getElem?_eq_some_iff.1 h
  simp only [World.setCell, putC]
  congr 1
  apply Array.ext_getElem?
  intro i
  rw [Array.getElem?_setIfInBounds, Array.getElem?_modify]
  split
  · rename_i hi; subst hi; rw [h]; simp
  · rfl

def splice (l : List Value) (o : Nat) (vs : List Value) : List Value := l.take o ++ vs ++ l.drop (o + vs.length)

theorem run_storeFrom {P : Program} {B o : Nat} {e : TypeId} {fz : Nat × Nat} :
    ∀ (vs : List Value) (i : Nat) (w : World) (C : Array Value), w.heap[B]? = some (.cells C e fz) → o + i + vs.length ≤ C.size → freeOf C.size fz → (∀ v ∈ vs, v.oneCell' = true) →
      (storeCells ⟨B, o, none⟩ vs i).run P w = .ok () (putC w B (.cells (splice C.toList (o + i) vs).toArray e fz))
  | [], i, w, C, h, hn, _, _ => by
    simp only [storeCells, splice, List.append_nil, List.length_nil, Nat.add_zero, List.take_append_drop, Sem.run_pure]
    rw [putC_id]; simpa using h
  | v :: vs, i, w, C, h, hn, hf, hv => by
    have hlen : o + i < C.size := by simp at hn; omega
    have hc : w.cell? ⟨B, o + i, none⟩ = some C[o + i] := by rw [cell_of h]; simp [hlen]
    have hfz : w.frozen? ⟨B, o + i, none⟩ = false := by
      rw [frozen_of h]
      have := hf.2 (o + i) hlen
      simp only [Bool.and_eq_false_iff, decide_eq_false_iff_not]
      omega
    have hlt : B < w.heap.size := (Array.getElem?_eq_some_iff.1 h).1
    simp only [storeCells, Sem.run_bind, add_mk]
    rw [run_store P w _ v .plain (hv v (by simp)), hc]
    simp only [hfz, Bool.false_eq_true, if_false, Result.andThen_ok]
    rw [setCell_eq h]
    have ih := run_storeFrom (P := P) (o := o) (e := e) (fz := fz) vs (i + 1) (putC w B (.cells (C.setIfInBounds (o + i) v) e fz)) (C.setIfInBounds (o + i) v) (putC_same hlt) (by simp at hn ⊢; omega) (by simpa using hf) (fun u hu => hv u (by simp [hu]))
    rw [ih, putC_putC]
    congr 3
    apply congrArg
    unfold splice
    have h1 : (C.setIfInBounds (o + i) v).toList = C.toList.set (o + i) v := by simp
    rw [h1]
    have hl : (C.toList.set (o + i) v).take (o + (i + 1)) = C.toList.take (o + i) ++ [v] := by
      rw [show o + (i + 1) = (o + i) + 1 from by omega, List.take_succ_eq_append_getElem (by simpa using hlen)]
      simp [List.take_set_of_le]
    have hd : (C.toList.set (o + i) v).drop (o + (i + 1) + vs.length) = C.toList.drop (o + i + (v :: vs).length) := by
      rw [List.drop_set_of_lt (by omega)]
      congr 1; simp; omega
    rw [hl, hd]; simp

theorem run_storeN {P : Program} {w : World} {B o : Nat} {C : Array Value} {e : TypeId} {fz : Nat × Nat} {vs : List Value} (h : w.heap[B]? = some (.cells C e fz)) (hn : o + vs.length ≤ C.size)
    (hf : freeOf C.size fz) (hv : ∀ v ∈ vs, v.oneCell' = true) :
    (storeCells ⟨B, o, none⟩ vs).run P w = .ok () (putC w B (.cells (splice C.toList o vs).toArray e fz)) := by
  have := run_storeFrom (P := P) (o := o) vs 0 w C h (by omega) hf hv
  simpa using this

theorem splice_length (l vs : List Value) (o : Nat) (h : o + vs.length ≤ l.length) : (splice l o vs).length = l.length := by
  simp [splice]; omega

/-- A store into the known part of a row. -/
theorem splice_mid {pre mid post vs : List Value} {o : Nat} (h : o + vs.length ≤ mid.length) :
    splice (pre ++ mid ++ post) (pre.length + o) vs = pre ++ splice mid o vs ++ post := by
  unfold splice
  have h1 : (pre ++ mid ++ post).take (pre.length + o) = pre ++ mid.take o := by
    rw [List.append_assoc, List.take_append, List.take_append]
    simp [List.take_of_length_le]
    omega
  have h2 : (pre ++ mid ++ post).drop (pre.length + o + vs.length) = mid.drop (o + vs.length) ++ post := by
    rw [List.append_assoc, List.drop_append, List.drop_append]
    have : pre.length + o + vs.length - pre.length = o + vs.length := by omega
    rw [this, List.drop_of_length_le (by omega)]
    have : o + vs.length - mid.length = 0 := by omega
    rw [this]; simp
  rw [h1, h2]; simp

/-- The abstract splice. -/
def spliceA (l : List AV) (o : Nat) (vs : List AV) : List AV := l.take o ++ vs ++ l.drop (o + vs.length)
theorem VRels.splice {μ : Mu} {ρ : Rho} {l : List AV} {L : List Value} {vs : List AV} {Vs : List Value} (o : Nat) (h : VRels μ ρ l L) (hv : VRels μ ρ vs Vs) : VRels μ ρ (spliceA l o vs) (splice L o Vs) := by
  unfold spliceA Go.Eng.splice
  rw [hv.length]
  exact ((h.take o).append hv).append (h.drop _)
end Go.Eng
/- Engine, part 5: operations that look at no memory. -/
namespace Go.Eng
open Go

/-! ### constants -/
def absC1 : Value → Option AV
  | .bool b => some (.bool b)
  | .int k n => some (.int k n)
  | .string s => some (.str s.data.toList)
  | .pointer none => some (.ptr none)
  | .slice none l c => some (.slc none l c false)
  | .map none => some (.map none)
  | .nilFunc => some .nilFn
  | .nilIface => some .nilIface
  | _ => none

noncomputable def absCs (l : List Value) : Option (List AV) :=
  List.rec (motive := fun _ => Option (List AV)) (some []) (fun v _ ih => match absC1 v, ih with | some a, some as => some (a :: as) | _, _ => none) l

noncomputable def absC : Value → Option AV
  | .agg cs => match absCs cs.toList with | some l => some (.agg l) | none => none
  | .tuple cs => match absCs cs.toList with | some l => some (.tup l) | none => none
  | v => absC1 v

section
variable {μ : Mu} {ρ : Rho}
theorem absC1_ok {v : Value} {a : AV} (h : absC1 v = some a) : VRel μ ρ a v := by
  cases v with
  | pointer p => cases p <;> simp [absC1] at h; subst h; simp [VRel, addrRel]
  | slice p l c => cases p <;> simp [absC1] at h; subst h; simp [VRel, slcRel]
  | map r => cases r <;> simp [absC1] at h; subst h; simp [VRel]
  | _ => simp [absC1] at h <;> (try subst h) <;> simp_all [VRel]
theorem absCs_ok : ∀ {l : List Value} {as : List AV}, absCs l = some as → VRels μ ρ as l
  | [], as, h => by
    have : as = [] := by simpa [absCs] using h.symm
    subst this; exact VRels.nil
  | v :: l, as, h => by
    have h' : (match absC1 v, absCs l with | some a, some as => some (a :: as) | _, _ => none) = some as := h
    split at h'
    · rename_i a as' e1 e2
      cases h'; exact VRels.cons (absC1_ok e1) (absCs_ok e2)
    · cases h'
theorem absC_ok {v : Value} {a : AV} (h : absC v = some a) : VRel μ ρ a v := by
  cases v with
  | agg cs =>
    simp only [absC] at h; split at h
    · rename_i l e; cases h; simp only [VRel]; exact ⟨_, rfl, absCs_ok e⟩
    · cases h
  | tuple cs =>
    simp only [absC] at h; split at h
    · rename_i l e; cases h; simp only [VRel]; exact ⟨_, rfl, absCs_ok e⟩
    · cases h
  | _ => exact absC1_ok (by simpa [absC] using h)
end

/-! ### types -/
def tyAgg (P : Program) (t : TypeId) : Option Bool :=
  match P.underlying t with
  | some (.struct _) | some (.array _ _) => some true
  | some _ => some false
  | none => none
def tySize (P : Program) (t : TypeId) : Option Nat := match P.info? t with | some i => some i.size | none => none
def tyBytes (P : Program) (t : TypeId) : Option Nat := match P.info? t with | some i => some i.bytes | none => none
noncomputable def tyZero (P : Program) (t : TypeId) : Option AV := match P.info? t with | some i => (match i.zero with | some z => absC z | none => none) | none => none

theorem run_underlying {P : Program} {t : TypeId} {d : TypeDesc} (h : P.underlying t = some d) (w : World) : (underlying t).run P w = .ok d w := by
  simp [underlying, h]
theorem run_isAgg {P : Program} {t : TypeId} {b : Bool} (h : tyAgg P t = some b) (w : World) : (isAgg t).run P w = .ok b w := by
  unfold tyAgg at h
  unfold isAgg
  split at h
  · rename_i e; cases h; simp [run_underlying e]
  · rename_i e; cases h; simp [run_underlying e]
  · rename_i d h1 h2 e; cases h; simp only [Sem.run_bind, run_underlying e, Result.andThen_ok]
    cases d <;> simp_all
  · cases h
theorem run_typeInfo {P : Program} {t : TypeId} {i : TypeInfo} (h : P.info? t = some i) (w : World) : (typeInfo t).run P w = .ok i w := by
  simp [typeInfo, h]
theorem run_sizeOf {P : Program} {t : TypeId} {n : Nat} (h : tySize P t = some n) (w : World) : (sizeOf t).run P w = .ok n w := by
  unfold tySize at h
  split at h
  · rename_i i e; cases h; simp [sizeOf, run_typeInfo e]
  · cases h
theorem run_zeroValue {P : Program} {t : TypeId} {z : AV} (h : tyZero P t = some z) (w : World) : ∃ Z, (zeroValue t).run P w = .ok Z w ∧ ∀ μ ρ, VRel μ ρ z Z := by
  unfold tyZero at h
  split at h
  · rename_i i e
    split at h
    · rename_i z' e'; exact ⟨z', by simp [zeroValue, run_typeInfo e, e'], fun μ ρ => absC_ok h⟩
    · cases h
  · cases h

/-! ### cells of a value -/
def AV.cells : AV → List AV
  | .agg cs => cs
  | v => [v]
def AV.one : AV → Bool
  | .agg _ | .tup _ | .sym _ => false
  | _ => true
noncomputable def allOne (l : List AV) : Bool := List.rec (motive := fun _ => Bool) true (fun v _ ih => match v.one with | true => ih | false => false) l
section
variable {μ : Mu} {ρ : Rho}
theorem VRel.one {v : AV} {V : Value} (h : VRel μ ρ v V) (ho : v.one = true) : V.oneCell' = true := by
  cases v with
  | ptr a => simp only [VRel] at h; obtain ⟨_, rfl, _⟩ := h; rfl
  | slc a l c lo => simp only [VRel] at h; obtain ⟨_, _, rfl, _⟩ := h; rfl
  | map r => cases r <;> simp only [VRel] at h; · subst h; rfl
             · obtain ⟨_, _, rfl⟩ := h; rfl
  | fn f A B => simp only [VRel] at h; obtain ⟨_, _, _, rfl, _⟩ := h; rfl
  | agg cs => simp [AV.one] at ho
  | tup cs => simp [AV.one] at ho
  | sym k => simp [AV.one] at ho
  | _ => simp only [VRel] at h; subst h; rfl
theorem allOne_cons (v : AV) (l : List AV) : allOne (v :: l) = (match v.one with | true => allOne l | false => false) := rfl
theorem VRels.ones : ∀ {vs : List AV} {Vs : List Value}, VRels μ ρ vs Vs → allOne vs = true → ∀ V ∈ Vs, V.oneCell' = true
  | [], _, h, _, V, hV => by rw [VRels.nil_inv h] at hV; simp at hV
  | v :: vs, _, h, ho, V, hV => by
    obtain ⟨U, Us, rfl, h1, h2⟩ := VRels.cons_inv h
    rw [allOne_cons] at ho
    cases hv : v.one with
    | false => rw [hv] at ho; cases ho
    | true =>
      rw [hv] at ho
      rcases List.mem_cons.1 hV with rfl | hV
      · exact h1.one hv
      · exact VRels.ones h2 ho V hV
theorem VRel.cells {v : AV} {V : Value} (h : VRel μ ρ v V) (hs : (∃ cs, v = .agg cs) ∨ v.one = true) : VRels μ ρ v.cells V.cells.toList := by
  rcases hs with ⟨cs, rfl⟩ | ho
  · simp only [VRel] at h; obtain ⟨A, rfl, h⟩ := h; exact h
  · have h1 := h.one ho
    have e : v.cells = [v] := by cases v <;> first | rfl | simp [AV.one] at ho
    have e' : V.cells = #[V] := by cases V <;> first | rfl | simp [Value.oneCell'] at h1
    rw [e, e']; exact VRels.cons h VRels.nil
end
/-- a value that may stand in cells -/
def AV.cellular : AV → Bool
  | .agg _ => true
  | v => v.one
theorem AV.cellular_ok {v : AV} (h : v.cellular = true) : (∃ cs, v = .agg cs) ∨ v.one = true := by
  cases v <;> simp_all [AV.cellular]

/-! ### lists of bytes -/
noncomputable def beqU (a b : UInt8) : Bool := Nat.beq a.toNat b.toNat
noncomputable def beqL (a : List UInt8) : List UInt8 → Bool :=
  List.rec (motive := fun _ => List UInt8 → Bool) (fun b => match b with | [] => true | _ :: _ => false)
    (fun x _ ih b => match b with | [] => false | y :: ys => match beqU x y with | true => ih ys | false => false) a
theorem beqU_iff (a b : UInt8) : beqU a b = true ↔ a = b := by
  unfold beqU
  constructor
  · intro h; exact UInt8.toNat_inj.1 (Nat.eq_of_beq_eq_true h)
  · rintro rfl; exact Nat.beq_refl _
theorem beqL_iff : ∀ (a b : List UInt8), beqL a b = true ↔ a = b
  | [], [] => by simp [beqL]
  | [], _ :: _ => by simp [beqL]
  | _ :: _, [] => by simp [beqL]
  | x :: xs, y :: ys => by
    show (match beqU x y with | true => beqL xs ys | false => false) = true ↔ _
    cases h : beqU x y with
    | true => simp only []; rw [beqL_iff xs ys]; have := (beqU_iff x y).1 h; subst this; simp
    | false =>
      simp only [Bool.false_eq_true, false_iff]
      intro e; cases e
      rw [(beqU_iff x x).2 rfl] at h; cases h
theorem beqL_eq (a b : List UInt8) : beqL a b = (a == b) := by
  rw [Bool.eq_iff_iff, beqL_iff]; simp
end Go.Eng
