/-
  What the abstract values of AbsDef stand for in a world; that it stays so while memory only grows. No conditions.
-/
import Derived.Test.YthchmjdgepbjpaaDoorAbsDef
import Derived.Deep.RegionHeld
namespace Go.Proofs.YthchmjdgepbjpaaDoor
open Go.RowKit
set_option linter.unusedSimpArgs false
set_option linter.unusedVariables false

/-- where one of the call's own blocks is: a block of cells; a slice -/
inductive RObj where
  | blk (n : Nat)
  | hdr (v : Value)
abbrev Rho := Nat → Option RObj
def rho0 : Rho := fun _ => none
/-- the value x stands for v; R: the blocks that are only read; ρ: the call's own blocks -/
inductive Rep (w : World) (R : Nat → Prop) : Rho → V → Value → Prop
  | any {ρ x} : Rep w R ρ .any x
  | und {ρ} : Rep w R ρ .und undef
  | bool {ρ b} : Rep w R ρ (.bool b) (.bool b)
  | int {ρ k n} : Rep w R ρ (.int k n) (.int k n)
  | str {ρ l} : Rep w R ρ (.str l) (S l)
  | val {ρ v} (h1 : Value.oneCell' v = true) : Rep w R ρ (.val v) v
  | agg {ρ} {cs : List V} {xs : List Value} (hl : cs.length = xs.length) (h1 : ∀ x ∈ xs, Value.oneCell' x = true) (h : ∀ (i : Nat) (v : V) (x : Value), cs[i]? = some v → xs[i]? = some x → Rep w R ρ v x) : Rep w R ρ (.agg cs) (.agg xs.toArray)
  | tup {ρ} {cs : List V} {xs : List Value} (hl : cs.length = xs.length) (h : ∀ (i : Nat) (v : V) (x : Value), cs[i]? = some v → xs[i]? = some x → Rep w R ρ v x) : Rep w R ρ (.tup cs) (.tuple xs.toArray)
  | ptr {ρ : Rho} {k b off} (h : ρ k = some (.blk b)) : Rep w R ρ (.ptr k off) (.pointer (some ⟨b, off, none⟩))
  | tst {ρ} {p : Prop} {b : Bool} (h : b = true → p) : Rep w R ρ (.tst p) (.bool b)
  | nils {ρ} : Rep w R ρ .nils (.slice none 0 0)
  | slnil {ρ a c} : Rep w R ρ (.sl []) (.slice a 0 c)
  | sl {ρ} {xs : List (List V)} {b o n c E : Nat} (f : Nat → Value) (hn : xs.length = n) (hc : n ≤ c) (hm : n ≤ maxLen) (hR : R b) (hE : ∀ row ∈ xs, row.length = E)
      (hf : ∀ j, j < n * E → w.cell? ⟨b, o + j, none⟩ = some (f j)) (h1 : ∀ j, j < n * E → Value.oneCell' (f j) = true)
      (h : ∀ (i : Nat) (row : List V) (j : Nat) (v : V), xs[i]? = some row → row[j]? = some v → Rep w R rho0 v (f (i * E + j))) : Rep w R ρ (.sl xs) (.slice (some ⟨b, o, none⟩) n c)
  | elt {ρ} {row : List V} {b o off : Nat} (f : Nat → Value) (hR : R b)
      (hf : ∀ j, j < row.length → w.cell? ⟨b, o + j, none⟩ = some (f j)) (h1 : ∀ j, j < row.length → Value.oneCell' (f j) = true)
      (h : ∀ (j : Nat) (v : V), row[j]? = some v → Rep w R rho0 v (f j)) : Rep w R ρ (.elt row off) (.pointer (some ⟨b, o + off, none⟩))
  | own {ρ : Rho} {k x} (h : ρ k = some (.hdr x)) (h1 : Value.oneCell' x = true) : Rep w R ρ (.own k) x
  | altT {ρ u v x} (h : Rep w R ρ u x) : Rep w R ρ (.alt true u v) x
  | altF {ρ u v x} (h : Rep w R ρ v x) : Rep w R ρ (.alt false u v) x
  | oelt {ρ : Rho} {k E i off g n c} (h : ρ k = some (.hdr (.slice (some ⟨g, 0, none⟩) n c))) : Rep w R ρ (.oelt k E i off) (.pointer (some ⟨g, i * E + off, none⟩))
  | ifc {ρ t v x} (h : Rep w R ρ v x) : Rep w R ρ (.ifc t v) (.iface t x)
  | fn {ρ f} {caps : List V} {xs : List Value} (hl : caps.length = xs.length) (h : ∀ (i : Nat) (v : V) (x : Value), caps[i]? = some v → xs[i]? = some x → Rep w R ρ v x) : Rep w R ρ (.fn f caps) (.func (.func f) #[] xs.toArray)

section
variable {w w' w'' : World} {R R' R'' : Nat → Prop} {ρ ρ' ρ'' : Rho} {v : V} {x : Value} {vs vs' cs : List V} {xs xs' : List Value} {i n : Nat}
/-- what was known stays known -/
structure Ext (w : World) (R : Nat → Prop) (ρ : Rho) (w' : World) (R' : Nat → Prop) (ρ' : Rho) : Prop where
  r : ∀ b, R b → R' b
  heap : ∀ b, R b → w'.heap[b]? = w.heap[b]?
  rho : ∀ k o, ρ k = some o → ρ' k = some o
theorem Ext.refl (w : World) (R : Nat → Prop) (ρ : Rho) : Ext w R ρ w R ρ := ⟨fun _ h => h, fun _ _ => rfl, fun _ _ h => h⟩
theorem Ext.trans (h : Ext w R ρ w' R' ρ') (k : Ext w' R' ρ' w'' R'' ρ'') : Ext w R ρ w'' R'' ρ'' :=
  ⟨fun b hb => k.r b (h.r b hb), fun b hb => (k.heap b (h.r b hb)).trans (h.heap b hb), fun c o hc => k.rho c o (h.rho c o hc)⟩

theorem Rep.mono (h : Rep w R ρ v x) : ∀ {w' : World} {R' : Nat → Prop} {ρ' : Rho}, (∀ b, R b → R' b) → (∀ b, R b → w'.heap[b]? = w.heap[b]?) → (∀ k o, ρ k = some o → ρ' k = some o) → Rep w' R' ρ' v x := by
  induction h with
  | any => intros; exact .any
  | und => intros; exact .und
  | bool => intros; exact .bool
  | int => intros; exact .int
  | str => intros; exact .str
  | val h1 => intros; exact .val h1
  | agg hl h1 h ih => intro w' R' ρ' a b c; exact .agg hl h1 fun i v x hv hx => ih i v x hv hx a b c
  | tup hl h ih => intro w' R' ρ' a b c; exact .tup hl fun i v x hv hx => ih i v x hv hx a b c
  | ptr h => intro w' R' ρ' a b c; exact .ptr (c _ _ h)
  | tst h => intros; exact .tst h
  | nils => intros; exact .nils
  | slnil => intros; exact .slnil
  | sl f hn hc hm hR hE hf h1 h ih => intro w' R' ρ' a b c; exact .sl f hn hc hm (a _ hR) hE (fun j hj => by rw [World.cell?_of_block (w := _) (b _ hR)]; exact hf j hj) h1 fun i row j v hi hj => ih i row j v hi hj a b (fun _ _ h => h)
  | elt f hR hf h1 h ih => intro w' R' ρ' a b c; exact .elt f (a _ hR) (fun j hj => by rw [World.cell?_of_block (w := _) (b _ hR)]; exact hf j hj) h1 fun j v hj => ih j v hj a b (fun _ _ h => h)
  | own h h1 => intro w' R' ρ' a b c; exact .own (c _ _ h) h1
  | altT h ih => intro w' R' ρ' a b c; exact .altT (ih a b c)
  | altF h ih => intro w' R' ρ' a b c; exact .altF (ih a b c)
  | oelt h => intro w' R' ρ' a b c; exact .oelt (c _ _ h)
  | ifc h ih => intro w' R' ρ' a b c; exact .ifc (ih a b c)
  | fn hl h ih => intro w' R' ρ' a b c; exact .fn hl fun i v x hv hx => ih i v x hv hx a b c
theorem Rep.ext (h : Rep w R ρ v x) (e : Ext w R ρ w' R' ρ') : Rep w' R' ρ' v x := h.mono e.r e.heap e.rho

theorem klL_get : ∀ (n : Nat) (cs : List V), V.klL n cs = true → ∀ (i : Nat) (v : V), cs[i]? = some v → ∃ m, V.kl m v = true
  | 0, _, h, _, _, _ => by simp [V.klL] at h
  | n + 1, [], _, i, v, hv => by simp at hv
  | n + 1, c :: cs, h, i, v, hv => by
    simp only [V.klL] at h
    split at h
    · rename_i hc
      cases i with
      | zero => simp at hv; subst hv; exact ⟨_, hc⟩
      | succ i => exact klL_get n cs h i v (by simpa using hv)
    · cases h
/-- what names none of the call's own blocks stands for the same without them -/
theorem Rep.kl (h : Rep w R ρ v x) : ∀ n, V.kl n v = true → Rep w R rho0 v x := by
  induction h with
  | any => intros; exact .any
  | und => intros; exact .und
  | bool => intros; exact .bool
  | int => intros; exact .int
  | str => intros; exact .str
  | val h1 => intros; exact .val h1
  | agg hl h1 h ih => intro n hn; cases n with | zero => simp [V.kl] at hn | succ n => exact .agg hl h1 fun i v x hv hx => by obtain ⟨m, hm⟩ := klL_get n _ (by simpa [V.kl] using hn) i v hv; exact ih i v x hv hx m hm
  | tup hl h ih => intro n hn; cases n with | zero => simp [V.kl] at hn | succ n => exact .tup hl fun i v x hv hx => by obtain ⟨m, hm⟩ := klL_get n _ (by simpa [V.kl] using hn) i v hv; exact ih i v x hv hx m hm
  | ptr h => intro n hn; cases n <;> simp [V.kl] at hn
  | tst h => intros; exact .tst h
  | nils => intros; exact .nils
  | slnil => intros; exact .slnil
  | sl f hn hc hm hR hE hf h1 h ih => intros; exact .sl f hn hc hm hR hE hf h1 h
  | elt f hR hf h1 h ih => intros; exact .elt f hR hf h1 h
  | own h => intro n hn; cases n <;> simp [V.kl] at hn
  | altT h ih => intro n hn; cases n with | zero => simp [V.kl] at hn | succ n => (simp only [V.kl] at hn; split at hn; (rename_i hx; exact .altT (ih n hx)); cases hn)
  | altF h ih => intro n hn; cases n with | zero => simp [V.kl] at hn | succ n => (simp only [V.kl] at hn; split at hn; exact .altF (ih n hn); cases hn)
  | oelt h => intro n hn; cases n <;> simp [V.kl] at hn
  | ifc h ih => intro n hn; cases n with | zero => simp [V.kl] at hn | succ n => exact .ifc (ih n (by simpa [V.kl] using hn))
  | fn hl h ih => intro n hn; cases n with | zero => simp [V.kl] at hn | succ n => exact .fn hl fun i v x hv hx => by obtain ⟨m, hm⟩ := klL_get n _ (by simpa [V.kl] using hn) i v hv; exact ih i v x hv hx m hm

/-- cells one by one -/
def Reps (w : World) (R : Nat → Prop) (ρ : Rho) (cs : List V) (xs : List Value) : Prop := cs.length = xs.length ∧ ∀ (i : Nat) (v : V) (x : Value), cs[i]? = some v → xs[i]? = some x → Rep w R ρ v x
theorem Reps.ext (h : Reps w R ρ vs xs) (e : Ext w R ρ w' R' ρ') : Reps w' R' ρ' vs xs := ⟨h.1, fun i v x hv hx => (h.2 i v x hv hx).ext e⟩
theorem Reps.nil : Reps w R ρ [] [] := ⟨rfl, by simp⟩
theorem Reps.cons (h : Rep w R ρ v x) (k : Reps w R ρ vs xs) : Reps w R ρ (v :: vs) (x :: xs) :=
  ⟨by simp [k.1], fun i a b ha hb => by cases i with | zero => simp at ha hb; subst ha; subst hb; exact h | succ i => exact k.2 i a b (by simpa using ha) (by simpa using hb)⟩
theorem Reps.uncons (h : Reps w R ρ (v :: vs) xs) : ∃ x r, xs = x :: r ∧ Rep w R ρ v x ∧ Reps w R ρ vs r := by
  cases xs with
  | nil => exact absurd h.1 (by simp)
  | cons x r => exact ⟨x, r, rfl, h.2 0 _ _ rfl rfl, ⟨by simpa using h.1, fun i a b ha hb => h.2 (i + 1) a b (by simpa using ha) (by simpa using hb)⟩⟩
theorem Reps.append (h : Reps w R ρ vs xs) (k : Reps w R ρ vs' xs') : Reps w R ρ (vs ++ vs') (xs ++ xs') := by
  refine ⟨by simp [h.1, k.1], fun i a b ha hb => ?_⟩
  by_cases hi : i < vs.length
  · rw [List.getElem?_append_left hi] at ha
    rw [List.getElem?_append_left (h.1 ▸ hi)] at hb
    exact h.2 i a b ha hb
  · rw [List.getElem?_append_right (by omega)] at ha
    rw [List.getElem?_append_right (by rw [← h.1]; omega), ← h.1] at hb
    exact k.2 _ a b ha hb
theorem Reps.get (h : Reps w R ρ cs xs) (hv : cs[i]? = some v) : ∃ x, xs[i]? = some x ∧ Rep w R ρ v x := by
  have hi : i < xs.length := by rw [← h.1]; exact (List.getElem?_eq_some_iff.1 hv).1
  exact ⟨xs[i], by simp [hi], h.2 i v _ hv (by simp [hi])⟩
theorem Reps.drop (n : Nat) (h : Reps w R ρ cs xs) : Reps w R ρ (cs.drop n) (xs.drop n) :=
  ⟨by simp [h.1], fun i a b ha hb => h.2 (n + i) a b (by simpa using ha) (by simpa using hb)⟩
theorem Reps.take (n : Nat) (h : Reps w R ρ cs xs) : Reps w R ρ (cs.take n) (xs.take n) :=
  ⟨by simp [h.1], fun i a b ha hb => by
    rw [List.getElem?_take] at ha hb
    split at ha
    · rename_i hi; simp only [hi, if_true] at hb; exact h.2 i a b ha hb
    · cases ha⟩
theorem Reps.klL (h : Reps w R ρ cs xs) (hk : V.klL n cs = true) : Reps w R rho0 cs xs :=
  ⟨h.1, fun i v x hv hx => by obtain ⟨m, hm⟩ := klL_get n cs hk i v hv; exact (h.2 i v x hv hx).kl m hm⟩
theorem Rep.ifc_one : ∀ (n : Nat) (v : V) (x : Value), V.ifcB n v = true → Rep w R ρ v x → x.cells = #[x] ∧ Value.oneCell' x = true
  | 0, v, x, h, _ => by simp [V.ifcB] at h
  | n + 1, v, x, h, hr => by
    cases v <;> simp only [V.ifcB] at h <;> try (cases h; done)
    case val z =>
      cases z <;> simp at h
      cases hr
      exact ⟨rfl, rfl⟩
    case ifc => cases hr; exact ⟨rfl, rfl⟩
    case alt b u u' =>
      split at h
      · rename_i hu
        cases hr with
        | altT hh => exact Rep.ifc_one n u x hu hh
        | altF hh => exact Rep.ifc_one n u' x h hh
      · cases h
theorem Rep.cells (h : Rep w R ρ v x) (hne : v.inner = true) : Reps w R ρ v.cells x.cells.toList ∧ ∀ y ∈ x.cells.toList, Value.oneCell' y = true := by
  have one : ∀ {v x}, Rep w R ρ v x → v.cells = [v] → x.cells = #[x] → Value.oneCell' x = true → Reps w R ρ v.cells x.cells.toList ∧ ∀ y ∈ x.cells.toList, Value.oneCell' y = true := by
    intro v x h hv hx h1
    rw [hv, hx]
    exact ⟨Reps.cons h Reps.nil, by simp [h1]⟩
  cases h with
  | any => cases hne
  | und => cases hne
  | agg hl h1 h => exact ⟨⟨by simpa [V.cells, Value.cells] using hl, by simpa [V.cells, Value.cells] using h⟩, by simpa [Value.cells] using h1⟩
  | tup hl h => cases hne
  | own h h1 => exact one (.own h h1) rfl (by cases x <;> simp_all [Value.oneCell', Value.cells]) h1
  | altT h => simp only [V.inner] at hne; obtain ⟨h1, h2⟩ := Rep.ifc_one 5 _ _ hne (.altT h); exact one (.altT h) rfl h1 h2
  | altF h => simp only [V.inner] at hne; obtain ⟨h1, h2⟩ := Rep.ifc_one 5 _ _ hne (.altF h); exact one (.altF h) rfl h1 h2
  | tst h => cases hne
  | val h1 => exact one (.val h1) rfl (by cases x <;> simp_all [Value.oneCell', Value.cells]) h1
  | bool => exact one .bool rfl rfl rfl
  | int => exact one .int rfl rfl rfl
  | str => exact one .str rfl rfl rfl
  | ptr h => exact one (.ptr h) rfl rfl rfl
  | nils => exact one .nils rfl rfl rfl
  | slnil => exact one .slnil rfl rfl rfl
  | sl f hn hc hm hR hE hf h1 h => exact one (.sl f hn hc hm hR hE hf h1 h) rfl rfl rfl
  | elt f hR hf h1 h => exact one (.elt f hR hf h1 h) rfl rfl rfl
  | oelt h => cases hne
  | ifc h => exact one (.ifc h) rfl rfl rfl
  | fn hl h => exact one (.fn hl h) rfl rfl rfl
end
end Go.Proofs.YthchmjdgepbjpaaDoor
