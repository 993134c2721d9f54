/-
  What comes in: a value that reads as data, of a type made of truths, numbers, texts, structs, arrays and slices, stands for an abstract value of that type's shape. No conditions.
-/
import Derived.Test.YthchmjdgepbjpaaDoorAbsRep
import Derived.Deep.Slices
import Derived.OpenShut
import Derived.WideShapes
namespace Go.Proofs.YthchmjdgepbjpaaDoor
open Go.RowKit Go.ChangeShapes Go.WideShapes
set_option linter.unusedSimpArgs false
set_option linter.unusedVariables false

/-- a row of cells, by their kinds -/
inductive Sh where
  | nil
  | b (r : Sh)
  | i (k : IntKind) (r : Sh)
  | s (r : Sh)
  | sl (e r : Sh)
def Sh.app : Sh → Sh → Sh
  | .nil, y => y
  | .b r, y => .b (r.app y)
  | .i k r, y => .i k (r.app y)
  | .s r, y => .s (r.app y)
  | .sl e r, y => .sl e (r.app y)
def Sh.rep (x : Sh) : Nat → Sh
  | 0 => .nil
  | n + 1 => x.app (x.rep n)
def Sh.size : Sh → Nat
  | .nil => 0
  | .b r => r.size + 1
  | .i _ r => r.size + 1
  | .s r => r.size + 1
  | .sl _ r => r.size + 1
def Sh.Is : Sh → List V → Prop
  | .nil, vs => vs = []
  | .b r, vs => ∃ x us, vs = .bool x :: us ∧ r.Is us
  | .i k r, vs => ∃ n us, vs = .int k n :: us ∧ (Lit.int k n).wf = true ∧ r.Is us
  | .s r, vs => ∃ l us, vs = .str l :: us ∧ l.length ≤ maxLen ∧ r.Is us
  | .sl e r, vs => ∃ rows us, vs = .sl rows :: us ∧ (∀ row ∈ rows, e.Is row) ∧ r.Is us
theorem Sh.Is.size : ∀ {sh : Sh} {vs : List V}, sh.Is vs → vs.length = sh.size
  | .nil, vs, h => by simp [Sh.Is] at h; simp [h, Sh.size]
  | .b r, vs, h => by obtain ⟨_, us, rfl, h⟩ := h; simp [Sh.size, h.size]
  | .i k r, vs, h => by obtain ⟨_, us, rfl, _, h⟩ := h; simp [Sh.size, h.size]
  | .s r, vs, h => by obtain ⟨_, us, rfl, _, h⟩ := h; simp [Sh.size, h.size]
  | .sl e r, vs, h => by obtain ⟨_, us, rfl, _, h⟩ := h; simp [Sh.size, h.size]
theorem Sh.Is.app : ∀ {x y : Sh} {vs us : List V}, x.Is vs → y.Is us → (x.app y).Is (vs ++ us)
  | .nil, y, vs, us, h, k => by simp [Sh.Is] at h; subst h; exact k
  | .b r, y, vs, us, h, k => by obtain ⟨a, u, rfl, h⟩ := h; exact ⟨a, u ++ us, rfl, h.app k⟩
  | .i _ r, y, vs, us, h, k => by obtain ⟨a, u, rfl, h0, h⟩ := h; exact ⟨a, u ++ us, rfl, h0, h.app k⟩
  | .s r, y, vs, us, h, k => by obtain ⟨a, u, rfl, h0, h⟩ := h; exact ⟨a, u ++ us, rfl, h0, h.app k⟩
  | .sl e r, y, vs, us, h, k => by obtain ⟨a, u, rfl, h0, h⟩ := h; exact ⟨a, u ++ us, rfl, h0, h.app k⟩

def shFields (P : Program) (rec : TypeId → Option Sh) : List Field → Nat → Nat → Option Sh
  | [], k, n => match Nat.beq k n with | true => some .nil | false => none
  | f :: r, k, n => match Nat.beq f.offset k with
    | true => match rec f.type with
      | some a => match Nat.beq a.size (P.cellsOf f.type) with
        | true => match shFields P rec r (k + a.size) n with
          | some y => some (a.app y)
          | none => none
        | false => none
      | none => none
    | false => none
def shOf (P : Program) : Nat → TypeId → Option Sh
  | 0, _ => none
  | n + 1, t => match P.underlying t with
    | some .bool => some (.b .nil)
    | some (.int k) => some (.i k .nil)
    | some .string => some (.s .nil)
    | some (.slice e) => match shOf P n e with
      | some a => match Nat.blt 0 a.size && Nat.beq a.size (P.cellsOf e) with | true => some (.sl a .nil) | false => none
      | none => none
    | some (.struct fs) => shFields P (shOf P n) fs.toList 0 (P.cellsOf t)
    | some (.array m e) => match shOf P n e with
      | some a => match Nat.beq a.size (P.cellsOf e) && Nat.beq (m * a.size) (P.cellsOf t) with | true => some (a.rep m) | false => none
      | none => none
    | _ => none

section
variable {H : Type} {enc : TypeId × Value → H} {P : Program} {w : World} {base : Nat} {sp : Nat → Bool} {hd : Bool}
/-- every block that is there may be read -/
abbrev allR (w : World) : Nat → Prop := fun b => b < w.heap.size
def Opens (w : World) (sh : Sh) (cs : List Value) : Prop := ∃ vs, sh.Is vs ∧ Reps w (allR w) rho0 vs cs ∧ ∀ c ∈ cs, c.oneCell' = true
theorem Opens.one {sh : Sh} {v : V} {c : Value} (h : sh.Is [v]) (hr : Rep w (allR w) rho0 v c) (h1 : c.oneCell' = true) : Opens w sh [c] :=
  ⟨[v], h, .cons hr .nil, by simpa using h1⟩
theorem Opens.app {a b : Sh} {xs ys : List Value} (h : Opens w a xs) (k : Opens w b ys) : Opens w (a.app b) (xs ++ ys) := by
  obtain ⟨vs, h1, h2, h3⟩ := h
  obtain ⟨us, k1, k2, k3⟩ := k
  refine ⟨vs ++ us, h1.app k1, h2.append k2, fun c hc => ?_⟩
  rcases List.mem_append.1 hc with hc | hc
  · exact h3 c hc
  · exact k3 c hc
theorem Opens.nil : Opens w .nil [] := ⟨[], rfl, .nil, by simp⟩
theorem Opens.rep {a : Sh} {E : Nat} : ∀ (m : Nat) (cs : List Value), cs.length = m * E → (∀ i, i < m → Opens w a ((cs.drop (i * E)).take E)) → Opens w (a.rep m) cs
  | 0, cs, hl, _ => by
    have : cs = [] := List.eq_nil_of_length_eq_zero (by simpa using hl)
    subst this; exact Opens.nil
  | m + 1, cs, hl, h => by
    have h0 := h 0 (by omega)
    rw [Nat.zero_mul, List.drop_zero] at h0
    have := h0.app (Opens.rep (E := E) m (cs.drop E) (by rw [List.length_drop, hl, Nat.add_mul]; omega) fun i hi => by
      have := h (i + 1) (by omega)
      rw [List.drop_drop, show E + i * E = (i + 1) * E by rw [Nat.add_mul]; omega]; exact this)
    rw [List.take_append_drop] at this
    exact this
theorem open_fields {rec : TypeId → Option Sh} (hrec : ∀ t sh, rec t = some sh → ∀ fuel cs x, DataW.trod enc P w base sp hd fuel t cs = some x → Opens w sh cs) {fuel n : Nat} {cs : List Value} (hl : cs.length = n) :
    ∀ (fs : List Field) (k : Nat) (sh : Sh), shFields P rec fs k n = some sh → (∀ f ∈ fs, ∃ x, DataW.trod enc P w base sp hd fuel f.type ((cs.drop f.offset).take (P.cellsOf f.type)) = some x) → Opens w sh (cs.drop k)
  | [], k, sh, h, _ => by
    simp only [shFields] at h
    split at h
    · rename_i hb
      cases h
      have := Nat.eq_of_beq_eq_true hb
      rw [List.drop_eq_nil_of_le (by omega)]
      exact Opens.nil
    · cases h
  | f :: r, k, sh, h, hx => by
    simp only [shFields] at h
    split at h <;> try (cases h; done)
    rename_i hoff
    split at h <;> try (cases h; done)
    rename_i a ha
    split at h <;> try (cases h; done)
    rename_i hsz
    split at h <;> try (cases h; done)
    rename_i y hy
    cases h
    have hoff := Nat.eq_of_beq_eq_true hoff
    have hsz := Nat.eq_of_beq_eq_true hsz
    obtain ⟨x, hx0⟩ := hx f List.mem_cons_self
    have h0 := hrec _ _ ha _ _ _ hx0
    rw [hoff, ← hsz] at h0
    have h1 := open_fields hrec hl r (k + a.size) y hy fun g hg => hx g (List.mem_cons_of_mem _ hg)
    have := h0.app h1
    rw [← List.drop_drop, List.take_append_drop] at this
    exact this
theorem cell_spot {a : Addr} {x : Value} (h : w.cell? a = some x) : a.spot = none ∧ a.block < w.heap.size := by
  unfold World.cell? at h
  split at h
  · rename_i hb
    split at h
    · cases h
    · rename_i hs
      exact ⟨by simpa using hs, (Array.getElem?_eq_some_iff.1 hb).1⟩
  · cases h
theorem add_spot {b o j : Nat} : (⟨b, o, none⟩ : Addr).add j = ⟨b, o + j, none⟩ := by
  unfold Addr.add
  split
  · rename_i h; subst h; rfl
  · rfl
theorem open_sh : ∀ (n : Nat) (t : TypeId) (sh : Sh), shOf P n t = some sh → ∀ fuel cs x, DataW.trod enc P w base sp hd fuel t cs = some x → Opens w sh cs
  | 0, t, sh, h => by cases h
  | n + 1, t, sh, h => fun fuel cs x hx => by
    unfold shOf at h
    split at h <;> try (cases h; done)
    · rename_i ht
      cases h
      obtain ⟨b, rfl, _⟩ := DataW.trod_bool ht hx
      exact Opens.one (v := .bool b) ⟨b, [], rfl, rfl⟩ .bool rfl
    · rename_i k ht
      cases h
      obtain ⟨m, rfl, _, hw⟩ := DataW.trod_int ht hx
      exact Opens.one (v := .int k m) ⟨m, [], rfl, hw, rfl⟩ .int rfl
    · rename_i ht
      cases h
      obtain ⟨s, rfl, _, hw⟩ := DataW.trod_string ht hx
      have e : s.data.toList.length = s.size := by rw [Array.length_toList]; rfl
      exact Opens.one (v := .str s.data.toList) ⟨s.data.toList, [], rfl, by rw [e]; exact hw, rfl⟩ (by have := @Rep.str w (allR w) rho0 s.data.toList; simpa [S] using this) rfl
    · rename_i e ht
      split at h <;> try (cases h; done)
      rename_i a ha
      split at h <;> try (cases h; done)
      rename_i hE
      cases h
      simp only [Bool.and_eq_true, Nat.blt_eq] at hE
      obtain ⟨hE, hEc⟩ := hE
      have hEc := Nat.eq_of_beq_eq_true hEc
      rcases Go.Deep.open_slice ht hx with ⟨rfl, _⟩ | ⟨ad, len, cap, m, fu, D, Pl, rfl, hb, hl, hm, hmm, _, hall⟩
      · exact Opens.one (v := .sl []) ⟨[], [], rfl, by simp, rfl⟩ .slnil rfl
      have hlm : len ≤ m := by rw [hmm]; split <;> omega
      rcases Nat.eq_zero_or_pos len with h0 | h0
      · subst h0
        exact Opens.one (v := .sl []) ⟨[], [], rfl, by simp, rfl⟩ .slnil rfl
      rw [← hEc] at hall
      obtain ⟨F, hF⟩ := Go.Deep.choose_lt (α := List Value × List V) (n := len) (p := fun i y => w.cells? base (ad.add (i * a.size)) a.size = some y.1 ∧ a.Is y.2 ∧ Reps w (allR w) rho0 y.2 y.1 ∧ ∀ c ∈ y.1, c.oneCell' = true) (fun i hi => by
        obtain ⟨cs', h1, h2⟩ := hall i (by omega)
        obtain ⟨vs, k1, k2, k3⟩ := open_sh n e a ha _ _ _ h2
        exact ⟨(cs', vs), h1, k1, k2, k3⟩)
      have cellAt : ∀ i j, i < len → j < a.size → ∃ c, w.cell? ((ad.add (i * a.size)).add j) = some c ∧ (F i).1[j]? = some c := fun i j hi hj => by
        obtain ⟨_, q2, q3⟩ := World.cells?_some (hF i hi).1
        have := q3 j hj
        rw [List.getElem?_eq_getElem (by omega)] at this
        exact ⟨_, this, List.getElem?_eq_getElem (by omega)⟩
      obtain ⟨c0, hc0, _⟩ := cellAt 0 0 h0 hE
      have had : (ad.add (0 * a.size)).add 0 = ad := by simp [Addr.add]
      rw [had] at hc0
      obtain ⟨hspot, hblk⟩ := cell_spot hc0
      obtain ⟨b, o, spot⟩ := ad
      simp only at hspot hblk hb
      subst hspot
      refine Opens.one (v := .sl ((List.range len).map fun i => (F i).2)) ⟨_, [], rfl, fun row hrow => ?_, rfl⟩ ?_ rfl
      · obtain ⟨i, hi, rfl⟩ := List.mem_map.1 hrow
        exact (hF i (List.mem_range.1 hi)).2.1
      · have split_j : ∀ j, j < len * a.size → j / a.size < len ∧ j % a.size < a.size ∧ j = j / a.size * a.size + j % a.size := fun j hj => by
          refine ⟨Nat.div_lt_of_lt_mul (by rw [Nat.mul_comm]; exact hj), Nat.mod_lt _ hE, ?_⟩
          have := Nat.div_add_mod j a.size
          rw [Nat.mul_comm] at this; omega
        have at_j : ∀ i j, i < len → j < a.size → ∃ c, w.cell? ⟨b, o + (i * a.size + j), none⟩ = some c ∧ (F i).1[j]? = some c := fun i j hi hj => by
          obtain ⟨c, h1, h2⟩ := cellAt i j hi hj
          rw [add_spot, add_spot, Nat.add_assoc] at h1
          exact ⟨c, h1, h2⟩
        refine .sl (E := a.size) (fun j => (w.cell? ⟨b, o + j, none⟩).getD undef) (by simp) hl (by omega) hblk (fun row hrow => ?_) (fun j hj => ?_) (fun j hj => ?_) fun i row j v hi hj => ?_
        · obtain ⟨i, hi, rfl⟩ := List.mem_map.1 hrow
          exact (hF i (List.mem_range.1 hi)).2.1.size
        · obtain ⟨h1, h2, h3⟩ := split_j j hj
          obtain ⟨c, h4, _⟩ := at_j _ _ h1 h2
          rw [← h3] at h4
          rw [h4]; rfl
        · obtain ⟨h1, h2, h3⟩ := split_j j hj
          obtain ⟨c, h4, h5⟩ := at_j _ _ h1 h2
          rw [← h3] at h4
          rw [h4]
          exact (hF _ h1).2.2.2 c (List.mem_of_getElem? h5)
        · have hil : i < len := by have := (List.getElem?_eq_some_iff.1 hi).1; simpa using this
          rw [List.getElem?_map, List.getElem?_range hil] at hi
          simp only [Option.map_some, Option.some.injEq] at hi
          subst hi
          have hjs : j < a.size := by rw [← (hF i hil).2.1.size]; exact (List.getElem?_eq_some_iff.1 hj).1
          obtain ⟨c, h4, h5⟩ := at_j i j hil hjs
          rw [h4]
          exact (hF i hil).2.2.1.2 j v c hj h5
    · rename_i fs ht
      obtain ⟨xs, fu, _, _, hl, hxl, hf⟩ := DataW.trod_struct ht hx
      have := open_fields (fuel := fu) (fun t sh h => open_sh n t sh h) hl fs.toList 0 sh h fun f hf0 => by
        obtain ⟨i, hi⟩ := List.getElem?_of_mem hf0
        have hi' : fs[i]? = some f := by simpa using hi
        have hlt : i < xs.length := by rw [hxl]; exact (Array.getElem?_eq_some_iff.1 hi').1
        exact ⟨xs[i], by rw [hf i f hi', List.getElem?_eq_getElem hlt]⟩
      simpa using this
    · rename_i m e ht
      split at h <;> try (cases h; done)
      rename_i a ha
      split at h <;> try (cases h; done)
      rename_i hE
      cases h
      simp only [Bool.and_eq_true] at hE
      have h1 := Nat.eq_of_beq_eq_true hE.1
      have h2 := Nat.eq_of_beq_eq_true hE.2
      obtain ⟨xs, fu, _, _, hl, hxl, hf⟩ := DataW.trod_array ht hx
      refine Opens.rep (E := a.size) m cs (by rw [hl, h2]) fun i hi => ?_
      have := hf i hi
      rw [← h1] at this
      exact open_sh n e a ha _ _ _ (by rw [this]; exact List.getElem?_eq_getElem (by omega))

/-- an argument of a struct's or an array's type -/
theorem open_agg {n : Nat} {t : TypeId} {sh : Sh} {v : Value} {d : DataW H} {ps : List MemPlace} (hsh : shOf P n t = some sh) (hv : ∃ cs, v = .agg cs) (h : DataW.Trod enc P w base sp hd t v d ps) :
    ∃ vs, sh.Is vs ∧ Rep w (allR w) rho0 (.agg vs) v := by
  obtain ⟨cs, rfl⟩ := hv
  obtain ⟨fuel, h⟩ := h
  obtain ⟨vs, h1, h2, h3⟩ := open_sh n t sh hsh _ _ _ h
  simp only [Value.cells] at h2 h3
  refine ⟨vs, h1, ?_⟩
  have := Rep.agg (w := w) (R := allR w) (ρ := rho0) h2.1 h3 h2.2
  simpa using this
theorem open_one {n : Nat} {t : TypeId} {sh : Sh} {v : Value} {d : DataW H} {ps : List MemPlace} (hsh : shOf P n t = some sh) (hv : v.cells = #[v]) (h : DataW.Trod enc P w base sp hd t v d ps) :
    ∃ u, sh.Is [u] ∧ Rep w (allR w) rho0 u v := by
  obtain ⟨fuel, h⟩ := h
  obtain ⟨vs, h1, h2, h3⟩ := open_sh n t sh hsh _ _ _ h
  rw [hv] at h2 h3
  have hl : vs.length = 1 := h2.1
  obtain ⟨u, rfl⟩ := List.length_eq_one_iff.1 hl
  exact ⟨u, h1, h2.2 0 u v rfl rfl⟩
/-- rows, each of which stands for a thing -/
theorem rows_map {α : Type} {f : α → List V} : ∀ {rows : List (List V)}, (∀ row ∈ rows, ∃ a, row = f a) → ∃ l : List α, rows = l.map f
  | [], _ => ⟨[], rfl⟩
  | row :: r, h => by
    obtain ⟨a, rfl⟩ := h row List.mem_cons_self
    obtain ⟨l, rfl⟩ := rows_map fun x hx => h x (List.mem_cons_of_mem _ hx)
    exact ⟨a :: l, rfl⟩
end
end Go.Proofs.YthchmjdgepbjpaaDoor

-- tabvar