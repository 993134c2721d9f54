/-
  A region's operations, in whatever order: what AbsDef's walk says of them in the text's order they do. No conditions.
-/
import Derived.Test.YthchmjdgepbjpaaDoorAbsOp9
namespace Go.Proofs.YthchmjdgepbjpaaDoor
open Go.RowKit
set_option linter.unusedSimpArgs false
set_option linter.unusedVariables false

/-- the frame's slots stand for what the walk says -/
structure EnvRep (N : Nat) (e : Env) (a : Act) (w : World) (R : Nat → Prop) (ρ : Rho) : Prop where
  size : a.tmps.size = N
  rep : ∀ t, Rep w R ρ (e t) (a.tmps.getD t undef)
  defers : a.defers = []
/-- blocks that keep their names -/
def An (an ρ : Rho) : Prop := ∀ k o, an k = some o → ρ k = some o
theorem An.ext {an ρ ρ' : Rho} {w w' : World} {R R' : Nat → Prop} (ha : An an ρ) (e : Ext w R ρ w' R' ρ') : An an ρ' := fun k o hk => e.rho k o (ha k o hk)
/-- what a piece of code comes to, through the eyes of the walk -/
def Lift [Inhabited TabT] (P : Program) (N : Nat) (cx : Cx) (an : Rho) (Q : Exit → Env → Hp → Prop) : Exit → Act → World → Prop :=
  fun ex a w => ∃ e h R ρ, Q ex e h ∧ St P cx h w R ρ ∧ There h ρ ∧ An an ρ ∧ EnvRep N e a w R ρ

section
variable {P : Program} {cx : Cx} {h h' : Hp} {w w' : World} {R R' : Nat → Prop} {ρ ρ' : Rho} {c N : Nat} {v : V} {x : Value} {e : Env} {T : Tab} {C : Cons} {a : Act} {an : Rho}

theorem EnvRep.rd [Inhabited TabT] (he : EnvRep N e a w R ρ) (hg : Glob w R) (y : Operand) : Rep w R ρ (e.rd y) (a.eval y) := by
  cases y with
  | tmp t => exact he.rep t
  | const u => exact .const u
  | global g =>
    simp only [Env.rd]
    cases hc : globK g with
    | some cs => exact (hg.1 g cs hc).mono (fun _ h => h) (fun _ _ => rfl) (fun k o h => by cases h)
    | none => exact .any
  | func f => exact Rep.fn (xs := []) rfl (by simp)
theorem getD_put (a : Act) (t d : Nat) (x : Value) (hd : d < a.tmps.size) : ((a.put (some d) x).tmps).getD t undef = if t = d then x else a.tmps.getD t undef := by
  simp only [Act.put]
  by_cases h : t = d
  · subst h; simp [Array.getD, hd]
  · simp only [Array.getD_eq_getD_getElem?, Array.getElem?_setIfInBounds, if_neg h]
    rw [if_neg (fun e => h e.symm)]
theorem EnvRep.put (he : EnvRep N e a w R ρ) (dst : Option Tmp) (hd : ∀ t, dst = some t → t < N) (hr : Rep w R ρ v x) : EnvRep N (e.put dst v) (a.put dst x) w R ρ := by
  cases dst with
  | none => exact he
  | some d =>
    refine ⟨by simp [Act.put, he.size], fun t => ?_, he.defers⟩
    rw [getD_put a t d x (by rw [he.size]; exact hd d rfl)]
    by_cases h : t = d
    · subst h; rw [if_pos rfl]; simp only [Env.put, Env.set_same]; exact hr
    · rw [if_neg h]; simp only [Env.put, Env.set_other e v h]; exact he.rep t
theorem EnvRep.ext (he : EnvRep N e a w R ρ) (hx : Ext w R ρ w' R' ρ') : EnvRep N e a w' R' ρ' := ⟨he.size, fun t => (he.rep t).ext hx, he.defers⟩

theorem opsK_cons {ops rest : List Oper} {o : Oper} {rc : List (List Nat × List Nat)} {K : Env → Hp → List (List Nat × List Nat) → Prop} (hk : opsK C T ops c (o :: rest) e h rc K) :
    guardK ops e o.guard (opF C T c o e h fun v rs ws => opsK C T ops (c + 1) rest (e.put o.dst v) (h.sets ws) ((rs, keysOf ws) :: rc) K) (opsK C T ops (c + 1) rest (e.put o.dst .und) h (([], []) :: rc) K) := by
  unfold opsK at hk
  cases hd : o.dst with
  | none => simp only [hd] at hk; exact hk
  | some d => simp only [hd] at hk; exact hk
/-- does the guard let the operation be carried out? -/
def gv (ops : List Oper) (e : Env) (g : Option (Nat × Bool)) : Option Bool :=
  match g with
  | none => some true
  | some (j, want) => match ops[j]? with
    | some o => match o.dst with
      | some t => match e t with
        | .bool b => some (b == want)
        | .und => some false
        | _ => none
      | none => none
    | none => none
theorem guardK_spec {ops : List Oper} {g : Option (Nat × Bool)} {p q : Prop} (hk : guardK ops e g p q) : (gv ops e g = some true ∧ p) ∨ (gv ops e g = some false ∧ q) := by
  cases g with
  | none => exact .inl ⟨rfl, hk⟩
  | some g =>
    obtain ⟨j, want⟩ := g
    simp only [guardK] at hk
    obtain ⟨o, ho, hk⟩ := nthK_spec _ _ hk
    unfold gv
    simp only [ho]
    split at hk
    · rename_i t hd
      simp only [hd]
      split at hk
      · rename_i b hb
        simp only [hb]
        cases want
        · rcases Br.cases hk with ⟨rfl, hk'⟩ | ⟨rfl, hk'⟩
          · exact .inr ⟨rfl, hk'⟩
          · exact .inl ⟨rfl, hk'⟩
        · rcases Br.cases hk with ⟨rfl, hk'⟩ | ⟨rfl, hk'⟩
          · exact .inl ⟨rfl, hk'⟩
          · exact .inr ⟨rfl, hk'⟩
      · rename_i hb
        simp only [hb]
        exact .inr ⟨by simp, hk⟩
      · exact hk.elim
    · exact hk.elim
theorem wanted_of {ops : List Oper} {o : Oper} {b : Bool} (hg : gv ops e o.guard = some b) (hr : ∀ j o' t, o.guard.map (·.1) = some j → ops[j]? = some o' → o'.dst = some t → Rep w R ρ (e t) (a.tmps.getD t undef)) : Region.wanted o (yielded ops.toArray a.tmps) = b := by
  unfold Region.wanted
  unfold gv at hg
  cases hgd : o.guard with
  | none => simp only [hgd] at hg ⊢; simpa using hg
  | some g =>
    obtain ⟨j, want⟩ := g
    simp only [hgd] at hg ⊢
    split at hg
    · rename_i o' ho
      split at hg
      · rename_i t hd
        have h1 := hr j o' t (by simp [hgd]) ho hd
        have hy : yielded ops.toArray a.tmps j = match a.tmps[t]? with | some (.bool b) => some b | _ => none := by
          unfold yielded
          have : ops.toArray[j]? = some o' := by simpa using ho
          simp only [this, hd, Option.bind_some]
          rfl
        split at hg
        · rename_i b' hb
          rw [hb] at h1
          have h2 := h1.of_bool
          have h3 : a.tmps[t]? = some (.bool b') := by
            rw [Array.getD_eq_getD_getElem?] at h2
            cases hq : a.tmps[t]? with
            | none => rw [hq] at h2; simp [undef] at h2
            | some u => rw [hq] at h2; simp at h2; rw [h2]
          rw [hy, h3]
          cases b' <;> cases want <;> simp_all
        · rename_i hb
          rw [hb] at h1
          have h2 : a.tmps.getD t undef = undef := by generalize a.tmps.getD t undef = u at h1; cases h1; rfl
          rw [hy]
          rw [Array.getD_eq_getD_getElem?] at h2
          cases hq : a.tmps[t]? with
          | none => simp at hg ⊢; exact hg
          | some u => rw [hq] at h2; simp at h2; subst h2; simp [undef] at hg ⊢; exact hg
        · cases hg
      · cases hg
    · cases hg
theorem Upon.next {o : Oper} {K : Act → World → Prop} {Q : Exit → Act → World → Prop} {r : Result Next} {KV : Value → World → Prop} (hu : Upon P KV r) (hk : ∀ x w', KV x w' → K (a.put o.dst x) w') : o.upon P a K Q r := by
  cases r with
  | ok n w =>
    cases n <;> simp only [Upon] at hu <;> simp only [Oper.upon]
    case value u => exact hk _ _ hu
    case skip => exact hk _ _ hu
    case enter f args => exact hu.mono fun e w'' ⟨x, he, hx⟩ => by subst he; exact hk _ _ hx
  | halt y w => exact hu.elim

/-- in the text's order -/
theorem ops_seq [Inhabited TabT] (hT : TabOk P T) (hC : ConsOk P C) {ops : List Oper} (hN : ∀ o ∈ ops, ∀ t, o.dst = some t → t < N) {Q : Exit → Env → Hp → Prop} :
    ∀ (rest : List Oper) (i c : Nat) (e : Env) (h : Hp) (rc : List (List Nat × List Nat)) (a : Act) (w : World) (R : Nat → Prop) (ρ : Rho), ops.drop i = rest → St P cx h w R ρ → There h ρ → An an ρ → EnvRep N e a w R ρ → opsK C T ops c rest e h rc (fun e h _ => Q .normal e h) →
      wpOps P ops.toArray (Lift P N cx an Q) (List.range' i rest.length) a w
  | [], i, c, e, h, rc, a, w, R, ρ, _, hs, ht, ha, he, hk => ⟨e, h, R, ρ, hk, hs, ht, ha, he⟩
  | o :: rest, i, c, e, h, rc, a, w, R, ρ, hd, hs, ht, ha, he, hk => by
    have hi : ops[i]? = some o := by
      have := congrArg (fun l => l[0]?) hd
      simpa [List.getElem?_drop] using this
    have hi' : ops.toArray[i]? = some o := by simpa using hi
    have hd' : ops.drop (i + 1) = rest := by rw [← List.drop_drop, hd]; rfl
    have hN' := hN o (List.mem_of_getElem? hi)
    rw [List.length_cons, List.range'_succ]
    simp only [wpOps, hi']
    rcases guardK_spec (opsK_cons hk) with ⟨hg, hk⟩ | ⟨hg, hk⟩
    · rw [wanted_of (w := w) (R := R) (ρ := ρ) hg (fun _ _ t _ _ _ => he.rep t), if_pos rfl]
      left
      obtain ⟨v, rs, ws, hk, hst⟩ := opF_sound (cx := cx) hT hC o hk
      refine Upon.next (hst h (fun _ _ => rfl) R ρ a w hs (fun x _ => he.rd hs.glob x) ht) fun x w' ⟨R', ρ', s1, s2, s3, s4⟩ => ?_
      exact ops_seq hT hC hN rest (i + 1) (c + 1) _ _ _ _ w' R' ρ' hd' s1 s2 (ha.ext s3) ((he.ext s3).put o.dst hN' s4) hk
    · rw [wanted_of (w := w) (R := R) (ρ := ρ) hg (fun _ _ t _ _ _ => he.rep t)]
      simp only [Bool.false_eq_true, if_false]
      exact ops_seq hT hC hN rest (i + 1) (c + 1) _ h _ _ w R ρ hd' hs ht ha (he.put o.dst hN' .und) hk
end
end Go.Proofs.YthchmjdgepbjpaaDoor

-- tabvar