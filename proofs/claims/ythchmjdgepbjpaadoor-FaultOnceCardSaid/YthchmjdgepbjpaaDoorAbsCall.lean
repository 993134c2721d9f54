/-
  Calls, through the eyes of a walk by abstract values: names of blocks there and here, what is lent, what is given up, what is written. No conditions.
-/
import Derived.Test.YthchmjdgepbjpaaDoorAbsConv
namespace Go.Proofs.YthchmjdgepbjpaaDoor
open Go.RowKit
set_option linter.unusedSimpArgs false
set_option linter.unusedVariables false

section
variable {P : Program} {cx : Cx} {h h' : Hp} {w w' : World} {R : Nat → Prop} {ρ : Rho} {c : Nat} {v : V} {x : Value} {e : Env} {T : Tab}
variable {dst : Option Tmp} {ty : TypeId} {pos : String} {af : Array Edge} {gd : Option (Nat × Bool)}

theorem Hp.sets_other : ∀ (ws : List (Nat × Blk)) (h : Hp) (k : Nat), k ∉ keysOf ws → h.sets ws k = h k
  | [], h, k, _ => rfl
  | (j, b) :: r, h, k, hk => by
    simp only [keysOf, List.mem_cons, not_or] at hk
    rw [Hp.sets, Hp.sets_other r _ k hk.2, Hp.set_other h _ hk.1]
theorem Hp.sets_same : ∀ (ws : List (Nat × Blk)) (h h1 : Hp) (k : Nat), k ∈ keysOf ws → h.sets ws k = h1.sets ws k
  | [], h, h1, k, hk => by cases hk
  | (j, b) :: r, h, h1, k, hk => by
    by_cases hr : k ∈ keysOf r
    · exact Hp.sets_same r _ _ k hr
    · simp only [keysOf, List.mem_cons] at hk
      rcases hk with rfl | hk
      · simp only [Hp.sets]; rw [Hp.sets_other r _ k hr, Hp.sets_other r _ k hr, Hp.set_same, Hp.set_same]
      · exact absurd hk hr
theorem keysOf_append : ∀ (a b : List (Nat × Blk)), keysOf (a ++ b) = keysOf a ++ keysOf b
  | [], b => rfl
  | (k, _) :: r, b => by simp [keysOf, keysOf_append r b]
theorem appW_eq : ∀ (a b : List (Nat × Blk)), appW a b = a ++ b
  | [], b => rfl
  | x :: r, b => by simp [appW, appW_eq r b]
theorem appN_eq : ∀ (a b : List Nat), appN a b = a ++ b
  | [], b => rfl
  | x :: r, b => by simp [appN, appN_eq r b]
theorem lenN_eq {α : Type} : ∀ (a : List α), lenN a = a.length
  | [] => rfl
  | x :: r => by simp [lenN, lenN_eq r]
theorem appK_spec : ∀ (a b : List V) (k : List V → Prop), appK a b k → k (a ++ b)
  | [], b, k, h => h
  | x :: r, b, k, h => appK_spec r b _ h
theorem hpL_get : ∀ (l : List Blk) (i : Nat), hpL l i = l[i]?
  | [], i => by simp [hpL]
  | b :: r, 0 => rfl
  | b :: r, n + 1 => by simp [hpL, hpL_get r n]
theorem nthN_get : ∀ (l : List Nat) (i : Nat), nthN l i = l[i]?
  | [], i => by simp [nthN]
  | b :: r, 0 => rfl
  | b :: r, n + 1 => by simp [nthN, nthN_get r n]
theorem altK_spec {v : V} {k : V → Prop} (hk : altK v k) : ∃ u, k u ∧ ∀ w R ρ x, Rep w R ρ v x → Rep w R ρ u x := by
  unfold altK at hk
  split at hk
  · rcases hk.cases with ⟨rfl, hk'⟩ | ⟨rfl, hk'⟩
    · exact ⟨_, forceK_iff.1 hk', fun w R ρ x h => by cases h; assumption⟩
    · exact ⟨_, forceK_iff.1 hk', fun w R ρ x h => by cases h; assumption⟩
  · exact ⟨_, forceK_iff.1 hk, fun w R ρ x h => h⟩
theorem flatL_get : ∀ (n : Nat) (cs : List V), V.flatL n cs = true → ∀ (i : Nat) (v : V), cs[i]? = some v → ∃ m, V.flat m v = true
  | 0, _, h, _, _, _ => by simp [V.flatL] at h
  | n + 1, [], h, i, v, hv => by simp at hv
  | n + 1, c :: cs, h, i, v, hv => by
    simp only [V.flatL] at h
    split at h
    · rename_i hc
      cases i with
      | zero => simp at hv; subst hv; exact ⟨_, hc⟩
      | succ i => exact flatL_get n cs h i v (by simpa using hv)
    · cases h
theorem Rep.flatV (h : Rep w R ρ v x) : ∀ n, V.flat n v = true → ∀ (w' : World) (R' : Nat → Prop) (ρ' : Rho), Rep w' R' ρ' v x := by
  induction h with
  | any => intros; exact .any
  | und => intros; exact .und
  | bool => intros; exact .bool
  | int => intros; exact .int
  | str => intros; exact .str
  | val h1 => intros; exact .val h1
  | agg hl h1 h ih => intro n hn w' R' ρ'; cases n with | zero => simp [V.flat] at hn | succ n => exact .agg hl h1 fun i v x hv hx => by obtain ⟨m, hm⟩ := flatL_get n _ (by simpa [V.flat] using hn) i v hv; exact ih i v x hv hx m hm _ _ _
  | tup hl h ih => intro n hn w' R' ρ'; cases n with | zero => simp [V.flat] at hn | succ n => exact .tup hl fun i v x hv hx => by obtain ⟨m, hm⟩ := flatL_get n _ (by simpa [V.flat] using hn) i v hv; exact ih i v x hv hx m hm _ _ _
  | ptr h => intro n hn; cases n <;> simp [V.flat] at hn
  | tst h => intros; exact .tst h
  | nils => intros; exact .nils
  | slnil => intro n hn; cases n <;> simp [V.flat] at hn
  | sl f hn hc hm hR hE hf h1 h ih => intro n hn; cases n <;> simp [V.flat] at hn
  | elt f hR hf h1 h ih => intro n hn; cases n <;> simp [V.flat] at hn
  | own h => intro n hn; cases n <;> simp [V.flat] at hn
  | oelt h => intro n hn; cases n <;> simp [V.flat] at hn
  | altT h ih => intro n hn; cases n <;> simp [V.flat] at hn
  | altF h ih => intro n hn; cases n <;> simp [V.flat] at hn
  | ifc h ih => intro n hn w' R' ρ'; cases n with | zero => simp [V.flat] at hn | succ n => exact .ifc (ih n (by simpa [V.flat] using hn) _ _ _)
  | fn hl h ih => intro n hn w' R' ρ'; cases n with | zero => simp [V.flat] at hn | succ n => exact .fn hl fun i v x hv hx => by obtain ⟨m, hm⟩ := flatL_get n _ (by simpa [V.flat] using hn) i v hv; exact ih i v x hv hx m hm _ _ _
theorem flatK_spec {v : V} {p : Prop} (h : flatK v p) : V.flat 40 v = true ∧ p := by
  unfold flatK at h; split at h
  · rename_i e; exact ⟨e, h⟩
  · exact h.elim

/-! ### names there and here -/
/-- the blocks of a contract, where the caller has them -/
def Rho.via (ρ : Rho) (σ : List Nat) : Rho := fun i => match σ[i]? with | some k => ρ k | none => none
theorem Rho.via_some {σ : List Nat} {i : Nat} {o : RObj} (h : ρ.via σ i = some o) : ∃ k, σ[i]? = some k ∧ ρ k = some o := by
  unfold Rho.via at h
  split at h
  · rename_i k hk; exact ⟨k, hk, h⟩
  · cases h
theorem renL_get (σ : List Nat) : ∀ (n : Nat) (cs : List V) (i : Nat) (v : V), cs[i]? = some v → n ≥ cs.length + 1 → ∃ m, m + i + 1 = n ∧ (V.renL σ n cs)[i]? = some (V.ren σ m v)
  | 0, cs, i, v, hv, hn => by omega
  | n + 1, [], i, v, hv, hn => by simp at hv
  | n + 1, c :: cs, 0, v, hv, hn => by simp at hv; subst hv; exact ⟨n, by omega, by simp [V.renL]⟩
  | n + 1, c :: cs, i + 1, v, hv, hn => by
    obtain ⟨m, h1, h2⟩ := renL_get σ n cs i v (by simpa using hv) (by simp at hn ⊢; omega)
    exact ⟨m, by omega, by simpa [V.renL] using h2⟩
theorem renL_len (σ : List Nat) : ∀ (n : Nat) (cs : List V), n ≥ cs.length + 1 → (V.renL σ n cs).length = cs.length
  | 0, cs, hn => by omega
  | n + 1, [], hn => rfl
  | n + 1, c :: cs, hn => by simp [V.renL, renL_len σ n cs (by simp at hn; omega)]
/-- too deep, or too long: nothing is said -/
theorem renL_bad (σ : List Nat) : ∀ (n : Nat) (cs : List V) (xs : List Value), Reps w R ρ (V.renL σ n cs) xs → n ≥ cs.length + 1
  | 0, cs, xs, h => by
    obtain ⟨x, r, rfl, h1, _⟩ := h.uncons
    cases h1
  | n + 1, [], xs, h => by simp
  | n + 1, c :: cs, xs, h => by
    simp only [V.renL] at h
    obtain ⟨x, r, rfl, _, h2⟩ := h.uncons
    have := renL_bad σ n cs r h2
    simp; omega
/-- from the caller's names to the contract's -/
theorem Rep.unren (σ : List Nat) : ∀ (n : Nat) (v : V) (x : Value), Rep w R ρ (V.ren σ n v) x → Rep w R (ρ.via σ) v x
  | 0, v, x, h => by simp only [V.ren] at h; cases h
  | n + 1, v, x, h => by
    have lst : ∀ (cs : List V) (xs : List Value), Reps w R ρ (V.renL σ n cs) xs → Reps w R (ρ.via σ) cs xs := fun cs xs hr => by
      have hn := renL_bad σ n cs xs hr
      refine ⟨by rw [← renL_len σ n cs hn]; exact hr.1, fun i v x hv hx => ?_⟩
      obtain ⟨m, hm, hg⟩ := renL_get σ n cs i v hv hn
      exact Rep.unren σ m v x (hr.2 i _ x hg hx)
    cases v with
    | own k =>
      simp only [V.ren, nthN_get] at h
      split at h
      · rename_i j hj; cases h with | own hp h1 => exact .own (by simp [Rho.via, hj, hp]) h1
      · cases h
    | ptr k o =>
      simp only [V.ren, nthN_get] at h
      split at h
      · rename_i j hj; cases h with | ptr hp => exact .ptr (by simp [Rho.via, hj, hp])
      · cases h
    | oelt k E i o =>
      simp only [V.ren, nthN_get] at h
      split at h
      · rename_i j hj; cases h with | oelt hp => exact .oelt (by simp only [Rho.via, hj]; exact hp)
      · cases h
    | agg cs => simp only [V.ren] at h; cases h with | agg hl h1 hh => have := lst cs _ ⟨hl, hh⟩; exact .agg this.1 h1 this.2
    | tup cs => simp only [V.ren] at h; cases h with | tup hl hh => have := lst cs _ ⟨hl, hh⟩; exact .tup this.1 this.2
    | fn f cs => simp only [V.ren] at h; cases h with | fn hl hh => have := lst cs _ ⟨hl, hh⟩; exact .fn this.1 this.2
    | ifc t u => simp only [V.ren] at h; cases h with | ifc hh => exact .ifc (Rep.unren σ n u _ hh)
    | alt b u u' =>
      simp only [V.ren] at h
      cases h with
      | altT hh => exact .altT (Rep.unren σ n u _ hh)
      | altF hh => exact .altF (Rep.unren σ n u' _ hh)
    | any => exact .any
    | bad => simp only [V.ren] at h; cases h
    | und => simp only [V.ren] at h; cases h; exact .und
    | bool b => simp only [V.ren] at h; cases h; exact .bool
    | int k m => simp only [V.ren] at h; cases h; exact .int
    | str l => simp only [V.ren] at h; cases h; exact .str
    | val u => simp only [V.ren] at h; cases h; exact .val ‹_›
    | nils => simp only [V.ren] at h; cases h; exact .nils
    | tst p => simp only [V.ren] at h; cases h; exact .tst ‹_›
    | sl ys => simp only [V.ren] at h; exact h.kl 1 rfl |>.mono (fun _ h => h) (fun _ _ => rfl) (fun k o h => by cases h)
    | elt r o => simp only [V.ren] at h; exact h.kl 1 rfl |>.mono (fun _ h => h) (fun _ _ => rfl) (fun k o h => by cases h)
theorem Reps.unren {σ : List Nat} {n : Nat} {cs : List V} {xs : List Value} (hr : Reps w R ρ (V.renL σ n cs) xs) : Reps w R (ρ.via σ) cs xs := by
  have hn := renL_bad σ n cs xs hr
  refine ⟨by rw [← renL_len σ n cs hn]; exact hr.1, fun i v x hv hx => ?_⟩
  obtain ⟨m, hm, hg⟩ := renL_get σ n cs i v hv hn
  exact Rep.unren σ m v x (hr.2 i _ x hg hx)
/-- from the contract's names to the caller's -/
def To (σ : List Nat) (v u : V) : Prop := ∀ (ρ ρ' : Rho) (w : World) (R : Nat → Prop) (x : Value), (∀ i k o, σ[i]? = some k → ρ i = some o → ρ' k = some o) → Rep w R ρ v x → Rep w R ρ' u x
def ToL (σ : List Nat) (vs us : List V) : Prop := ∀ (ρ ρ' : Rho) (w : World) (R : Nat → Prop) (xs : List Value), (∀ i k o, σ[i]? = some k → ρ i = some o → ρ' k = some o) → Reps w R ρ vs xs → Reps w R ρ' us xs
mutual
theorem renK_spec (σ : List Nat) : ∀ (n : Nat) (v : V) (k : V → Prop), renK σ n v k → ∃ u, k u ∧ To σ v u ∧ u = V.ren σ n v
  | 0, v, k, h => by simp [renK] at h
  | n + 1, v, k, h => by
    have plain : V.kl 1 v = true → v = V.ren σ (n + 1) v → k v → ∃ u, k u ∧ To σ v u ∧ u = V.ren σ (n + 1) v := fun hk he h => ⟨v, h, fun ρ ρ' w R x hσ hr => (hr.kl 1 hk).mono (fun _ h => h) (fun _ _ => rfl) (fun k o h => by cases h), he⟩
    cases v with
    | own a =>
      simp only [renK] at h; split at h
      · rename_i j hj; have hj0 := hj; rw [nthN_get] at hj
        exact ⟨_, h, fun ρ ρ' w R x hσ hr => by cases hr with | own hp h1 => exact .own (hσ _ _ _ hj hp) h1, by simp [V.ren, hj0]⟩
      · exact h.elim
    | ptr a o =>
      simp only [renK] at h; split at h
      · rename_i j hj; have hj0 := hj; rw [nthN_get] at hj
        exact ⟨_, h, fun ρ ρ' w R x hσ hr => by cases hr with | ptr hp => exact .ptr (hσ _ _ _ hj hp), by simp [V.ren, hj0]⟩
      · exact h.elim
    | oelt a E i o =>
      simp only [renK] at h; split at h
      · rename_i j hj; have hj0 := hj; rw [nthN_get] at hj
        exact ⟨_, h, fun ρ ρ' w R x hσ hr => by cases hr with | oelt hp => exact .oelt (hσ _ _ _ hj hp), by simp [V.ren, hj0]⟩
      · exact h.elim
    | agg cs =>
      simp only [renK] at h
      obtain ⟨us, h1, h2, h3⟩ := renLK_spec σ n cs _ h
      exact ⟨_, h1, fun ρ ρ' w R x hσ hr => by cases hr with | agg hl h1 hh => have := h2 ρ ρ' w R _ hσ ⟨hl, hh⟩; exact .agg this.1 h1 this.2, by simp [V.ren, h3]⟩
    | tup cs =>
      simp only [renK] at h
      obtain ⟨us, h1, h2, h3⟩ := renLK_spec σ n cs _ h
      exact ⟨_, h1, fun ρ ρ' w R x hσ hr => by cases hr with | tup hl hh => have := h2 ρ ρ' w R _ hσ ⟨hl, hh⟩; exact .tup this.1 this.2, by simp [V.ren, h3]⟩
    | fn f cs =>
      simp only [renK] at h
      obtain ⟨us, h1, h2, h3⟩ := renLK_spec σ n cs _ h
      exact ⟨_, h1, fun ρ ρ' w R x hσ hr => by cases hr with | fn hl hh => have := h2 ρ ρ' w R _ hσ ⟨hl, hh⟩; exact .fn this.1 this.2, by simp [V.ren, h3]⟩
    | ifc t u =>
      simp only [renK] at h
      obtain ⟨u', h1, h2, h3⟩ := renK_spec σ n u _ h
      exact ⟨_, h1, fun ρ ρ' w R x hσ hr => by cases hr with | ifc hh => exact .ifc (h2 ρ ρ' w R _ hσ hh), by simp [V.ren, h3]⟩
    | alt b x y =>
      simp only [renK] at h
      obtain ⟨x', h1, h2, h5⟩ := renK_spec σ n x _ h
      obtain ⟨y', h3, h4, h6⟩ := renK_spec σ n y _ h1
      exact ⟨_, h3, fun ρ ρ' w R x hσ hr => by
        cases hr with
        | altT hh => exact .altT (h2 ρ ρ' w R _ hσ hh)
        | altF hh => exact .altF (h4 ρ ρ' w R _ hσ hh), by simp [V.ren, h5, h6]⟩
    | bad => exact h.elim
    | _ => exact plain rfl rfl h
theorem renLK_spec (σ : List Nat) : ∀ (n : Nat) (cs : List V) (k : List V → Prop), renLK σ n cs k → ∃ us, k us ∧ ToL σ cs us ∧ us = V.renL σ n cs
  | 0, cs, k, h => by simp [renLK] at h
  | n + 1, [], k, h => ⟨[], h, fun ρ ρ' w R xs hσ hr => ⟨hr.1, by simp⟩, rfl⟩
  | n + 1, c :: cs, k, h => by
    simp only [renLK] at h
    obtain ⟨u, h1, h2, h5⟩ := renK_spec σ n c _ h
    obtain ⟨us, h3, h4, h6⟩ := renLK_spec σ n cs _ h1
    exact ⟨_, h3, fun ρ ρ' w R xs hσ hr => by
      obtain ⟨x, r, rfl, r1, r2⟩ := hr.uncons
      exact .cons (h2 ρ ρ' w R x hσ r1) (h4 ρ ρ' w R r hσ r2), by simp [V.renL, h5, h6]⟩
end
def ToB (P : Program) (σ : List Nat) (b b' : Blk) : Prop := ((b = .dead ∨ ∃ v, b = .rd v) ↔ (b' = .dead ∨ ∃ v, b' = .rd v)) ∧ ∀ (ρ ρ' : Rho) (w : World) (R : Nat → Prop) (o : RObj), (∀ i k o, σ[i]? = some k → ρ i = some o → ρ' k = some o) → BRep P w R ρ o b → BRep P w R ρ' o b'
theorem renBK_spec {σ : List Nat} {b : Blk} {k : Blk → Prop} (h : renBK σ b k) : ∃ b', k b' ∧ ToB P σ b b' := by
  have same : ∀ {b : Blk} {k : Blk → Prop}, (∀ cs, b ≠ .cells cs) → k b → ∃ b', k b' ∧ ToB P σ b b' := fun {b k} hn h => ⟨b, h, Iff.rfl, fun ρ ρ' w R o hσ hb => by
    cases b with
    | cells cs => exact absurd rfl (hn cs)
    | rows el xs => cases o <;> exact hb
    | dead => cases o <;> exact hb
    | rd v => cases o <;> exact hb⟩
  cases b with
  | cells cs =>
    obtain ⟨us, h1, h2, _⟩ := renLK_spec σ 60 cs _ h
    refine ⟨_, h1, by simp, fun ρ ρ' w R o hσ hb => ?_⟩
    cases o with
    | blk n => obtain ⟨xs, t, q1, q2, q3⟩ := hb; exact ⟨xs, t, q1, h2 ρ ρ' w R _ hσ q2, q3⟩
    | hdr v => exact hb
  | rows el xs => exact same (by simp) h
  | dead => exact same (by simp) h
  | rd v => exact same (by simp) h
theorem renBsK_spec {σ : List Nat} : ∀ {js : List Nat} {bs : List Blk} {k : List (Nat × Blk) → Prop}, renBsK σ js bs k → ∃ ws, k ws ∧ keysOf ws = js ∧ js.length = bs.length ∧ ∀ (i : Nat) (b : Blk), bs[i]? = some b → ∃ j b', js[i]? = some j ∧ ws[i]? = some (j, b') ∧ ToB P σ b b'
  | [], [], k, h => ⟨[], h, rfl, rfl, by simp⟩
  | j :: js, b :: bs, k, h => by
    obtain ⟨b', h, hb⟩ := renBK_spec (P := P) h
    obtain ⟨ws, h1, h2, h3, h4⟩ := renBsK_spec h
    refine ⟨_, h1, by simp [keysOf, h2], by simp [h3], fun i b0 hi => ?_⟩
    cases i with
    | zero => simp at hi; subst hi; exact ⟨j, b', rfl, rfl, hb⟩
    | succ i => simpa using h4 i b0 (by simpa using hi)
  | [], _ :: _, k, h => h.elim
  | _ :: _, [], k, h => h.elim
theorem eqsK_spec : ∀ {xs us : List V} {p : Prop}, eqsK xs us p → xs = us ∧ p
  | [], [], p, h => ⟨rfl, h⟩
  | x :: xs, u :: us, p, h => by
    simp only [eqsK] at h
    obtain ⟨h1, h2⟩ := forceK_iff.1 h
    obtain ⟨h3, h4⟩ := eqsK_spec h2
    exact ⟨by rw [h1, h3], h4⟩
  | [], _ :: _, p, h => h.elim
  | _ :: _, [], p, h => h.elim
/-- the blocks js hold what a contract says -/
def Has (h : Hp) (σ js : List Nat) (bs : List Blk) : Prop := js.length = bs.length ∧ ∀ (i k : Nat) (b : Blk), js[i]? = some k → bs[i]? = some b → h k = some (Blk.ren σ b) ∨ (b = .dead ∧ h k ≠ none)
theorem Has.cons {σ js : List Nat} {bs : List Blk} {j : Nat} {b : Blk} (h1 : h j = some (Blk.ren σ b) ∨ (b = .dead ∧ h j ≠ none)) (h2 : Has h σ js bs) : Has h σ (j :: js) (b :: bs) :=
  ⟨by simp [h2.1], fun i k b' hk hb => by
    cases i with
    | zero => simp at hk hb; subst hk; subst hb; exact h1
    | succ i => exact h2.2 i k b' (by simpa using hk) (by simpa using hb)⟩
theorem hasBk_spec {σ : List Nat} : ∀ {js : List Nat} {bs : List Blk} {p : Prop}, hasBk h σ js bs p → Has h σ js bs ∧ p
  | [], [], p, hh => ⟨⟨rfl, by simp⟩, hh⟩
  | j :: js, b :: bs, p, hh => by
    simp only [hasBk] at hh
    split at hh
    · exact hh.elim
    · rename_i c hc
      split at hh
      · obtain ⟨h1, h2⟩ := hasBk_spec hh
        exact ⟨.cons (.inr ⟨rfl, by rw [hc]; simp⟩) h1, h2⟩
      · split at hh
        · rename_i cs
          obtain ⟨us, h0, _, h3⟩ := renLK_spec σ 60 _ _ hh
          obtain ⟨he, h4⟩ := eqsK_spec h0
          subst he
          obtain ⟨h1, h2⟩ := hasBk_spec h4
          exact ⟨.cons (.inl (by rw [hc, h3]; rfl)) h1, h2⟩
        · exact hh.elim
      · split at hh
        · obtain ⟨e1, e2, hh2⟩ := natK_spec hh
          subst e1; subst e2
          obtain ⟨h1, h2⟩ := hasBk_spec hh2
          exact ⟨.cons (.inl hc) h1, h2⟩
        · exact hh.elim
      · split at hh
        · obtain ⟨e1, hh2⟩ := forceK_iff.1 hh
          subst e1
          obtain ⟨h1, h2⟩ := hasBk_spec hh2
          exact ⟨.cons (.inl hc) h1, h2⟩
        · exact hh.elim
  | [], _ :: _, p, hh => hh.elim
  | _ :: _, [], p, hh => hh.elim
theorem BRep.unren {σ : List Nat} {o : RObj} {b : Blk} (hb : BRep P w R ρ o (Blk.ren σ b)) : BRep P w R (ρ.via σ) o b := by
  cases b with
  | cells cs => cases o with
    | blk n => obtain ⟨xs, t, h1, h2, h3⟩ := hb; exact ⟨xs, t, h1, h2.unren, h3⟩
    | hdr v => exact hb
  | rows el xs => cases o <;> exact hb
  | dead => cases o <;> exact hb
  | rd v => cases o <;> exact hb
theorem live_ren {σ : List Nat} {b : Blk} (hd : ¬ (b = .dead ∨ ∃ v, b = .rd v)) : ¬ (Blk.ren σ b = .dead ∨ ∃ v, Blk.ren σ b = .rd v) := by
  cases b <;> simp_all [Blk.ren]
theorem distinct_spec : ∀ {l : List Nat}, distinctB l = true → l.Nodup
  | [], _ => List.nodup_nil
  | k :: r, h => by
    simp only [distinctB, Bool.and_eq_true] at h
    refine List.nodup_cons.2 ⟨fun hk => ?_, distinct_spec h.2⟩
    have : r.any (Nat.beq k) = true := List.any_eq_true.2 ⟨k, hk, Nat.beq_refl k⟩
    rw [this] at h; simp at h
theorem nodup_get {l : List Nat} (hl : l.Nodup) {i j : Nat} {k : Nat} (hi : l[i]? = some k) (hj : l[j]? = some k) : i = j := by
  obtain ⟨h1, e1⟩ := List.getElem?_eq_some_iff.1 hi
  obtain ⟨h2, e2⟩ := List.getElem?_eq_some_iff.1 hj
  exact (List.getElem_inj hl).1 (e1.trans e2.symm)
/-- what is known of some blocks, under other names -/
theorem BRep.dead {o : RObj} : BRep P w R ρ o .dead := by cases o <;> trivial
theorem St.via [Inhabited TabT] (hs : St P cx h w R ρ) {σ : List Nat} {bs : List Blk} (hd : σ.Nodup) (hb : Has h σ σ bs) : St P cx (hpL bs) w R (ρ.via σ) ∧ There (hpL bs) (ρ.via σ) := by
  obtain ⟨hl, hg⟩ := hb
  have live : ∀ i, Live (hpL bs) i → ∃ k, σ[i]? = some k ∧ Live h k := fun i ⟨b, h1, h2⟩ => by
    rw [hpL_get] at h1
    have hi : i < σ.length := by rw [hl]; exact (List.getElem?_eq_some_iff.1 h1).1
    rcases hg i σ[i] b (by simp [hi]) h1 with h3 | ⟨h3, _⟩
    · exact ⟨σ[i], by simp [hi], _, h3, live_ren h2⟩
    · exact absurd (.inl h3) h2
  refine ⟨⟨hs.keeps, fun i o b hi h1 => ?_, fun i i' o o' n hne l l' hi hi' => ?_, fun i o n l hi => ?_, hs.rlt, hs.rold, hs.glob⟩, fun i o hi => ?_⟩
  · obtain ⟨k, hk, ho⟩ := Rho.via_some hi
    rw [hpL_get] at h1
    rcases hg i k b hk h1 with h3 | ⟨rfl, _⟩
    · exact (hs.brep k o _ ho h3).unren
    · exact .dead
  · obtain ⟨k, hk, ho⟩ := Rho.via_some hi
    obtain ⟨k', hk', ho'⟩ := Rho.via_some hi'
    obtain ⟨q, hq, lq⟩ := live i l
    obtain ⟨q', hq', lq'⟩ := live i' l'
    rw [hk] at hq; cases hq
    rw [hk'] at hq'; cases hq'
    exact hs.apart k k' o o' n (fun e => by subst e; exact hne (nodup_get hd hk hk')) lq lq' ho ho'
  · obtain ⟨k, hk, ho⟩ := Rho.via_some hi
    obtain ⟨q, hq, lq⟩ := live i l
    rw [hk] at hq; cases hq
    exact hs.mine k o n lq ho
  · obtain ⟨k, hk, ho⟩ := Rho.via_some hi
    have hi' : i < bs.length := by rw [← hl]; exact (List.getElem?_eq_some_iff.1 hk).1
    rw [hpL_get]; simp [hi']

/-! ### what is lent -/
/-- what may be read, and the storage of all that is the call's own -/
def RA (h : Hp) (ρ : Rho) (R : Nat → Prop) : Nat → Prop := fun m => R m ∨ ∃ a o, Live h a ∧ ρ a = some o ∧ o.own = some m
theorem RA.lt [Inhabited TabT] (hs : St P cx h w R ρ) : ∀ m, RA h ρ R m → m < w.heap.size := fun m hm => by
  rcases hm with hm | ⟨a, o, l, ha, ho⟩
  · exact hs.rlt m hm
  · exact (hs.mine a o m l ha ho).2.1
theorem Rep.toRA (hr : Rep w R rho0 v x) : Rep w (RA h ρ R) rho0 v x := hr.mono (fun _ h => .inl h) (fun _ _ => rfl) (fun _ _ h => h)
/-- a list of one's own, read -/
theorem own_lendR [Inhabited TabT] {k : Nat} {el : TypeId} {xs : List (List V)} {x : Value} (hs : St P cx h w R ρ) (hk : h k = some (.rows el xs)) (hr : Rep w R ρ (.own k) x) {R'' : Nat → Prop} (hR : ∀ m, R m → R'' m) (hst : ∀ o m, ρ k = some o → o.own = some m → R'' m) : Rep w R'' rho0 (.sl xs) x := by
  cases hr with
  | own hp =>
    obtain ⟨E, fl, ho⟩ := hs.brep k _ _ hp hk
    obtain ⟨ha, hb⟩ := ho.owns
    rcases hb with ⟨rfl, h0⟩ | ⟨a, rfl, h0⟩ | ⟨g, cap, cur, fz, rfl, hg, hnc, hcm, hcs, htake, hfz⟩
    · have : xs = [] := List.eq_nil_of_length_eq_zero h0
      subst this; exact .slnil
    · have : xs = [] := List.eq_nil_of_length_eq_zero h0
      subst this; exact .slnil
    · rcases ho.cell with ⟨_, h0⟩ | ⟨_, hfl, cur', fz', q1, q2, q3⟩
      · have : xs = [] := List.eq_nil_of_length_eq_zero h0
        subst this; exact .slnil
      refine .sl (o := 0) (E := E) (fun j => fl.getD j undef) rfl hnc (by omega) (hst _ _ hp rfl) ho.len (fun j hj => ?_) (fun j hj => ?_) fun i row j v hi hj => ?_
      · rw [Nat.zero_add, q3 j hj]; simp [List.getD, List.getElem?_eq_getElem (show j < fl.length by omega)]
      · simp [List.getD, List.getElem?_eq_getElem (show j < fl.length by omega)]
        exact ho.one _ (List.getElem_mem _)
      · obtain ⟨y, hy, hry⟩ := (ho.rep i row hi).get hj
        rw [List.getElem?_take] at hy
        split at hy
        · rw [List.getElem?_drop] at hy
          simp only [List.getD, hy, Option.getD_some]
          exact hry.mono hR (fun _ _ => rfl) (fun _ _ h => h)
        · cases hy
theorem own_lend [Inhabited TabT] {k : Nat} {el : TypeId} {xs : List (List V)} {x : Value} (hs : St P cx h w R ρ) (hk : h k = some (.rows el xs)) (hr : Rep w R ρ (.own k) x) : Rep w (RA h ρ R) rho0 (.sl xs) x :=
  own_lendR hs hk hr (fun _ h => .inl h) fun o m h1 h2 => .inr ⟨k, o, ⟨_, hk, by simp⟩, h1, h2⟩
/-- an element of a list of one's own, read -/
theorem oelt_lend [Inhabited TabT] {k E i off : Nat} {el : TypeId} {xs : List (List V)} {row : List V} {x : Value} (hs : St P cx h w R ρ) (hk : h k = some (.rows el xs)) (hi : xs[i]? = some row) (hE : row.length = E) (hr : Rep w R ρ (.oelt k E i off) x) : Rep w (RA h ρ R) rho0 (.elt row off) x := by
  cases hr with
  | oelt hp =>
    rename_i g n cap
    obtain ⟨E', fl, ho⟩ := hs.brep k _ _ hp hk
    have hlt : i < xs.length := (List.getElem?_eq_some_iff.1 hi).1
    rcases ho.cell with ⟨_, h0⟩ | ⟨rfl, hfl, cur, fz, hg, hsz, hcell⟩
    · omega
    obtain rfl : E' = E := by rw [← ho.len row (List.mem_of_getElem? hi), hE]
    have hin := row_at (E := E') hlt
    have hroom : roomOf (.slice (some ⟨g, 0, none⟩) xs.length cap) = some g := by
      rcases ho.owns.2 with ⟨hb, _⟩ | ⟨_, hb, hz⟩ | ⟨g', cap', cur', fz', hb, _⟩
      · simp at hb
      · omega
      · simp at hb
        obtain ⟨rfl, rfl⟩ := hb
        rfl
    refine .elt (fun j => fl.getD (i * E' + j) undef) (.inr ⟨k, _, ⟨_, hk, by simp⟩, hp, hroom⟩) (fun j hj => ?_) (fun j hj => ?_) fun j v hj => ?_
    · rw [hcell _ (by omega)]; simp [List.getD, List.getElem?_eq_getElem (show i * E' + j < fl.length by omega)]
    · have hj' : i * E' + j < fl.length := by omega
      simp [List.getD, List.getElem?_eq_getElem hj']; exact ho.one _ (List.getElem_mem hj')
    · obtain ⟨y, hy, hry⟩ := (ho.rep i row hi).get hj
      rw [List.getElem?_take] at hy
      split at hy
      · rw [List.getElem?_drop] at hy
        simp only [List.getD, hy, Option.getD_some]
        exact hry.toRA
      · cases hy
/-- what is lent stands for the same, all that is the call's own being read -/
def Lent [Inhabited TabT] (h : Hp) (v : V) (ks : List Nat) (v' : V) : Prop := ∀ (P : Program) (h1 : Hp), (∀ a ∈ ks, h1 a = h a) → ∀ (cx : Cx) (w : World) (R : Nat → Prop) (ρ : Rho) (x : Value), St P cx h1 w R ρ → Rep w R ρ v x → Rep w (RA h1 ρ R) rho0 v' x
def LentL [Inhabited TabT] (h : Hp) (vs : List V) (ks : List Nat) (vs' : List V) : Prop := ∀ (P : Program) (h1 : Hp), (∀ a ∈ ks, h1 a = h a) → ∀ (cx : Cx) (w : World) (R : Nat → Prop) (ρ : Rho) (xs : List Value), St P cx h1 w R ρ → Reps w R ρ vs xs → Reps w (RA h1 ρ R) rho0 vs' xs
mutual
theorem lendK_spec [Inhabited TabT] (h : Hp) : ∀ (n : Nat) (v : V) (k : V → List Nat → Prop), lendK h n v k → ∃ v' ks, k v' ks ∧ Lent h v ks v'
  | 0, v, k, hk => by simp [lendK] at hk
  | n + 1, v, k, hk => by
    have plain : V.kl 1 v = true → k v [] → ∃ v' ks, k v' ks ∧ Lent h v ks v' := fun h0 hk => ⟨v, [], hk, fun P h1 _ cx w R ρ x _ hr => (hr.kl 1 h0).toRA⟩
    cases v with
    | own a =>
      simp only [lendK] at hk
      split at hk
      · rename_i el xs ha
        exact ⟨_, _, hk, fun P h1 hag cx w R ρ x hs hr => own_lend hs ((hag a (by simp)).trans ha) hr⟩
      · rename_i u ha
        refine ⟨_, _, forceK_iff.1 hk, fun P h1 hag cx w R ρ x hs hr => ?_⟩
        cases hr with
        | own hp => exact Rep.toRA (hs.brep a _ _ hp ((hag a (by simp)).trans ha))
      · exact hk.elim
    | ptr a off =>
      simp only [lendK] at hk
      split at hk
      · rename_i cs ha
        obtain ⟨cs', ks, h1, h2⟩ := lendLK_spec h n cs _ hk
        refine ⟨_, _, h1, fun P h1 hag cx w R ρ x hs hr => ?_⟩
        cases hr with
        | ptr hp =>
          rename_i b
          obtain ⟨xs, t, q1, q2, q3⟩ := hs.brep a _ _ hp ((hag a (by simp)).trans ha)
          have h3 := h2 P h1 (fun b hb => hag b (by simp [hb])) cx w R ρ xs hs q2
          rw [show (Value.pointer (some ⟨b, off, none⟩)) = .pointer (some ⟨b, 0 + off, none⟩) from by simp]
          refine .elt (o := 0) (fun j => xs.getD j undef) (.inr ⟨a, _, ⟨_, (hag a (by simp)).trans ha, by simp⟩, hp, rfl⟩) (fun j hj => ?_) (fun j hj => ?_) (fun j v hj => ?_)
          · rw [Nat.zero_add, cell_of_block q1]; simp [List.getD, List.getElem?_eq_getElem (show j < xs.length by rw [← h3.1]; exact hj)]
          · have hj' : j < xs.length := by rw [← h3.1]; exact hj
            simp [List.getD, List.getElem?_eq_getElem hj']; exact q3 _ (List.getElem_mem hj')
          · obtain ⟨y, hy, hr⟩ := h3.get hj
            simp [List.getD, hy]; exact hr
      · rename_i u ha
        split at hk
        · refine ⟨_, _, hk, fun P h1 hag cx w R ρ x hs hr => ?_⟩
          cases hr with
          | ptr hp =>
            obtain ⟨cs', hcs, hrd⟩ := hs.brep a _ _ hp ((hag a (by simp)).trans ha)
            cases hcs
            rename_i b
            generalize hb : (Value.pointer (some ⟨b, 0, none⟩)) = z at hrd
            cases hrd with
            | elt f hR hf ho hrr =>
              rename_i b' o'
              simp at hb
              obtain ⟨rfl, rfl⟩ := hb
              have := Rep.elt (w := w) (R := R) (ρ := rho0) (off := off) f hR hf ho hrr
              simp at this
              exact this.toRA
        · exact hk.elim
      · exact hk.elim
    | oelt a E i off =>
      simp only [lendK] at hk
      split at hk
      · rename_i el xs ha
        obtain ⟨h1, hk⟩ := hk
        obtain ⟨h2, hk⟩ := hk xs[i] (by simp [h1])
        exact ⟨_, _, hk, fun P h1' hag cx w R ρ x hs hr => oelt_lend hs ((hag a (by simp)).trans ha) (by simp [h1]) h2 hr⟩
      · exact hk.elim
    | agg cs =>
      simp only [lendK] at hk
      obtain ⟨cs', ks, h1, h2⟩ := lendLK_spec h n cs _ hk
      exact ⟨_, _, h1, fun P h1 hag cx w R ρ x hs hr => by cases hr with | agg hl h1 hh => have := h2 P _ hag cx w R ρ _ hs ⟨hl, hh⟩; exact .agg this.1 h1 this.2⟩
    | tup cs => simp [lendK] at hk
    | fn f cs =>
      simp only [lendK] at hk
      obtain ⟨cs', ks, h1, h2⟩ := lendLK_spec h n cs _ hk
      exact ⟨_, _, h1, fun P h1 hag cx w R ρ x hs hr => by cases hr with | fn hl hh => have := h2 P _ hag cx w R ρ _ hs ⟨hl, hh⟩; exact .fn this.1 this.2⟩
    | ifc t u =>
      simp only [lendK] at hk
      obtain ⟨u', ks, h1, h2⟩ := lendK_spec h n u _ hk
      exact ⟨_, _, h1, fun P h1 hag cx w R ρ x hs hr => by cases hr with | ifc hh => exact .ifc (h2 P _ hag cx w R ρ _ hs hh)⟩
    | alt b x y =>
      simp only [lendK] at hk
      obtain ⟨x', ks, q1, q2⟩ := lendK_spec h n x _ hk
      obtain ⟨y', js, q3, q4⟩ := lendK_spec h n y _ q1
      refine ⟨_, _, q3, fun P h1 hag cx w R ρ z hs hr => ?_⟩
      rw [appN_eq] at hag
      cases hr with
      | altT hh => exact .altT (q2 P h1 (fun a ha => hag a (by simp [ha])) cx w R ρ _ hs hh)
      | altF hh => exact .altF (q4 P h1 (fun a ha => hag a (by simp [ha])) cx w R ρ _ hs hh)
    | bad => simp [lendK] at hk
    | _ => exact plain rfl hk
theorem lendLK_spec [Inhabited TabT] (h : Hp) : ∀ (n : Nat) (vs : List V) (k : List V → List Nat → Prop), lendLK h n vs k → ∃ vs' ks, k vs' ks ∧ LentL h vs ks vs'
  | 0, vs, k, hk => by simp [lendLK] at hk
  | n + 1, [], k, hk => ⟨[], [], hk, fun P h1 _ cx w R ρ xs _ hr => ⟨hr.1, by simp⟩⟩
  | n + 1, v :: vs, k, hk => by
    simp only [lendLK] at hk
    obtain ⟨v', ks, h1, h2⟩ := lendK_spec h n v _ hk
    obtain ⟨vs', js, h3, h4⟩ := lendLK_spec h n vs _ h1
    refine ⟨_, _, h3, fun P h1 hag cx w R ρ xs hs hr => ?_⟩
    rw [appN_eq] at hag
    obtain ⟨x, r, rfl, r1, r2⟩ := hr.uncons
    exact .cons (h2 P h1 (fun a ha => hag a (by simp [ha])) cx w R ρ x hs r1) (h4 P h1 (fun a ha => hag a (by simp [ha])) cx w R ρ r hs r2)
end
end
end Go.Proofs.YthchmjdgepbjpaaDoor

-- tabvar