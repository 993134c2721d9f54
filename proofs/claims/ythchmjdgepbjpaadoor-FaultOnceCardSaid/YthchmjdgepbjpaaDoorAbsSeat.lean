/-
  The table of types is true of this seat's program. No conditions.
-/
import Derived.Test.YthchmjdgepbjpaaDoorAbsAw
import Derived.Test.YthchmjdgepbjpaaDoorAbsTab
import Derived.Stop.Asserts
namespace Go.Proofs.YthchmjdgepbjpaaDoor
open Go.RowKit
theorem tabOk_of {P : Program} : ∀ (l : List (Option TI)) (k : Nat), tabOkB P k l = true → ∀ j ti, nthO l j = some ti → tiOkB P (k + j) ti = true
  | [], _, _, j, ti, h => by cases h
  | none :: r, k, hb, 0, ti, h => by cases h
  | some t :: r, k, hb, 0, ti, h => by
    simp only [tabOkB, Bool.and_eq_true] at hb
    cases h; exact hb.1
  | none :: r, k, hb, j + 1, ti, h => by
    have := tabOk_of r (k + 1) hb j ti h
    rw [show k + 1 + j = k + (j + 1) by omega] at this; exact this
  | some t :: r, k, hb, j + 1, ti, h => by
    simp only [tabOkB, Bool.and_eq_true] at hb
    have := tabOk_of r (k + 1) hb.2 j ti h
    rw [show k + 1 + j = k + (j + 1) by omega] at this; exact this
theorem eqOk_of {P : Program} : ∀ (l : List (Option (List EK))) (k : Nat), eqOkB P k l = true → ∀ j ks, nthE l j = some ks → ekOkB P (k + j) ks = true
  | [], _, _, j, ks, h => by cases h
  | none :: r, k, hb, 0, ks, h => by cases h
  | some t :: r, k, hb, 0, ks, h => by
    simp only [eqOkB, Bool.and_eq_true] at hb
    cases h; exact hb.1
  | none :: r, k, hb, j + 1, ks, h => by
    have := eqOk_of r (k + 1) hb j ks h
    rw [show k + 1 + j = k + (j + 1) by omega] at this; exact this
  | some t :: r, k, hb, j + 1, ks, h => by
    simp only [eqOkB, Bool.and_eq_true] at hb
    have := eqOk_of r (k + 1) hb.2 j ks h
    rw [show k + 1 + j = k + (j + 1) by omega] at this; exact this
theorem findI_of {P : Program} {p : Nat × Nat × Bool → Prop} : ∀ (l : List (Nat × Nat × Bool)), (∀ x ∈ l, p x) → ∀ a d b, findI l a d = some b → p (a, d, b)
  | [], _, a, d, b, h => by cases h
  | (x, y, c) :: r, hp, a, d, b, h => by
    have ih := findI_of (P := P) r (fun z hz => hp z (List.mem_cons_of_mem _ hz)) a d b
    simp only [findI] at h
    split at h
    · rename_i h1
      split at h
      · rename_i h2
        cases h
        rw [← Nat.eq_of_beq_eq_true h1, ← Nat.eq_of_beq_eq_true h2]
        exact hp _ (by simp)
      · exact ih h
    · exact ih h
theorem findM_of {P : Program} {p : Nat × String × Nat × Bool → Prop} : ∀ (l : List (Nat × String × Nat × Bool)), (∀ x ∈ l, p x) → ∀ a d f b, findM l a d = some (f, b) → p (a, d, f, b)
  | [], _, a, d, f, b, h => by cases h
  | (x, y, g, c) :: r, hp, a, d, f, b, h => by
    have ih := findM_of (P := P) r (fun z hz => hp z (List.mem_cons_of_mem _ hz)) a d f b
    simp only [findM] at h
    split at h
    · rename_i h1
      split at h
      · rename_i h2
        cases h
        rw [← Nat.eq_of_beq_eq_true h1, ← of_decide_eq_true h2]
        exact hp _ (by simp)
      · exact ih h
    · exact ih h
def impOkB (P : Program) (x : Nat × Nat × Bool) : Bool := match P.underlying x.1, P.info? x.2.1 with | some (.interface want), some i => (Go.lacking want i.methods).isEmpty == x.2.2 | _, _ => false
def cmpOkB (P : Program) (t : Nat) : Bool := match P.info? t, P.underlying t with | some i, some (.int _) => i.comparable | _, _ => false
theorem tab_imp (a d : TypeId) (b : Bool) (h : tab.imp a d = some b) : ∃ want i, Tryd.prog.underlying a = some (.interface want) ∧ Tryd.prog.info? d = some i ∧ (Instr.missingMethod want i.methods).isNone = b := by
  have h1 : impL.all (impOkB Tryd.prog) = true := by kernel_rfl
  have h2 := findI_of (P := Tryd.prog) (p := fun x => impOkB Tryd.prog x = true) impL (fun x hx => List.all_eq_true.1 h1 x hx) a d b h
  simp only [impOkB] at h2
  split at h2
  · rename_i want i e1 e2
    refine ⟨want, i, e1, e2, ?_⟩
    have h3 : (Go.lacking want i.methods).isEmpty = b := by simpa using h2
    cases b with
    | true => rw [Go.missingMethod_none (by simpa using h3)]; rfl
    | false =>
      obtain ⟨m, hm⟩ := Go.missingMethod_some (want := want) (got := i.methods) (fun e => by rw [e] at h3; cases h3)
      rw [hm]; rfl
  · cases h2
theorem tab_meth (t : TypeId) (m : String) (f : FuncId) (h : tab.meth t m = some (f, false)) (v : Value) (w : World) : (method (Tryd.prog.types.size + Made.depth) t v m).run Tryd.prog w = .ok (f, v) w := by
  have := findM_of (P := Tryd.prog) (p := fun x => x.2.2.2 = false → ∀ v w, (method (Tryd.prog.types.size + Made.depth) x.1 v x.2.1).run Tryd.prog w = .ok (x.2.2.1, v) w) methL (by
    intro x hx
    simp only [methL, List.mem_cons, List.not_mem_nil, or_false] at hx
    rcases hx with rfl | rfl | rfl | rfl | rfl | rfl | rfl | rfl <;> first | (intro hb; cases hb; done) | (intro _ v w; kernel_rfl)) t m f false h
  exact this rfl v w
theorem tab_meth1 (t : TypeId) (m : String) (f : FuncId) (h : tab.meth t m = some (f, true)) (v : Value) (w : World) : (method (Tryd.prog.types.size + Made.depth) t (.agg #[v]) m).run Tryd.prog w = .ok (f, v) w := by
  have := findM_of (P := Tryd.prog) (p := fun x => x.2.2.2 = true → ∀ v w, (method (Tryd.prog.types.size + Made.depth) x.1 (.agg #[v]) x.2.1).run Tryd.prog w = .ok (x.2.2.1, v) w) methL (by
    intro x hx
    simp only [methL, List.mem_cons, List.not_mem_nil, or_false] at hx
    rcases hx with rfl | rfl | rfl | rfl | rfl | rfl | rfl | rfl <;> first | (intro hb; cases hb; done) | (intro _ v w; kernel_rfl)) t m f true h
  exact this rfl v w
theorem tab_cmp (t : TypeId) (h : tab.cmp t = true) : ∃ i k, Tryd.prog.info? t = some i ∧ i.comparable = true ∧ Tryd.prog.underlying t = some (.int k) := by
  have h1 : cmpL.all (cmpOkB Tryd.prog) = true := by kernel_rfl
  obtain ⟨u, hu, hb⟩ := List.any_eq_true.1 h
  have := List.all_eq_true.1 h1 u hu
  rw [← Nat.eq_of_beq_eq_true hb] at this
  simp only [cmpOkB] at this
  split at this
  · rename_i i k e1 e2
    exact ⟨i, k, e1, this, e2⟩
  · cases this
def cmpPOkB (P : Program) (t : Nat) : Bool := match P.info? t, P.underlying t with | some i, some (.pointer el) => i.comparable && (match P.info? el with | some j => !(j.size == 0) | none => false) | _, _ => false
theorem tab_cmpP (t : TypeId) (h : tab.cmpP t = true) : ∃ i el j, Tryd.prog.info? t = some i ∧ i.comparable = true ∧ Tryd.prog.underlying t = some (.pointer el) ∧ Tryd.prog.info? el = some j ∧ j.size ≠ 0 := by
  have h1 : cmpPL.all (cmpPOkB Tryd.prog) = true := by kernel_rfl
  obtain ⟨u, hu, hb⟩ := List.any_eq_true.1 h
  have := List.all_eq_true.1 h1 u hu
  rw [← Nat.eq_of_beq_eq_true hb] at this
  simp only [cmpPOkB] at this
  split at this
  · rename_i i el e1 e2
    simp only [Bool.and_eq_true] at this
    obtain ⟨h3, h4⟩ := this
    split at h4
    · rename_i j e3
      exact ⟨i, el, j, e1, h3, e2, e3, by simpa using h4⟩
    · cases h4
  · cases this
theorem base : Base Tryd.prog tab where
  follows := by kernel_rfl
  tab := ⟨fun t ti h => by have := tabOk_of (P := Tryd.prog) tabL 0 (by kernel_rfl) t ti h; rw [Nat.zero_add] at this; exact this,
    fun t ks h => by have := eqOk_of (P := Tryd.prog) eqL 0 (by kernel_rfl) t ks h; rw [Nat.zero_add] at this; exact this,
    tab_imp, tab_meth, tab_meth1, tab_cmp, tab_cmpP⟩
/-- a slice's rows -/
theorem rows_of (t : TypeId) {el : TypeId} {E : Nat} (h : tab t = some (.slice el E)) : ∃ E, RowInfo Tryd.prog el E := ⟨E, (tiOk_slice (base.tab.ti t _ h)).2⟩
end Go.Proofs.YthchmjdgepbjpaaDoor

-- tabvar