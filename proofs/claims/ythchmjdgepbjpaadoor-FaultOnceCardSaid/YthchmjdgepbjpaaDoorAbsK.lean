/-
  What the steps of AbsDef come to, one by one; the table of types held against the program. No conditions.
-/
import Derived.Test.YthchmjdgepbjpaaDoorAbsSt
namespace Go.Proofs.YthchmjdgepbjpaaDoor
open Go.RowKit
set_option linter.unusedSimpArgs false
set_option linter.unusedVariables false

theorem forceK_iff {v : V} {k : V → Prop} : forceK v k ↔ k v := by cases v <;> simp [forceK]
theorem innerK_spec {v : V} {k : V → Prop} (h : innerK v k) : v.inner = true ∧ k v := by
  cases v
  case alt b x y =>
    simp only [innerK] at h
    simp only [V.inner]
    split at h
    · rename_i hh; exact ⟨hh, h⟩
    · exact h.elim
  all_goals simp_all [innerK, V.inner]
theorem nthK_spec {α : Type} {k : α → Prop} : ∀ (n : Nat) (l : List α), nthK n l k → ∃ x, l[n]? = some x ∧ k x
  | 0, [], h => h.elim
  | 0, x :: _, h => ⟨x, rfl, h⟩
  | n + 1, [], h => h.elim
  | n + 1, _ :: r, h => by obtain ⟨x, h1, h2⟩ := nthK_spec n r h; exact ⟨x, by simpa using h1, h2⟩
theorem takeK_spec : ∀ (n : Nat) (l : List V) (k : List V → Prop), takeK n l k → n ≤ l.length ∧ k (l.take n)
  | 0, l, k, h => ⟨by simp, by simpa [takeK] using h⟩
  | n + 1, [], k, h => h.elim
  | n + 1, x :: r, k, h => by obtain ⟨h1, h2⟩ := takeK_spec n r _ h; exact ⟨by simpa using h1, by simpa using h2⟩
theorem dropK_spec : ∀ (n : Nat) (l : List V) (k : List V → Prop), dropK n l k → n ≤ l.length ∧ k (l.drop n)
  | 0, l, k, h => ⟨by simp, by simpa [dropK] using h⟩
  | n + 1, [], k, h => h.elim
  | n + 1, x :: r, k, h => by obtain ⟨h1, h2⟩ := dropK_spec n r _ h; exact ⟨by simpa using h1, by simpa using h2⟩
theorem writeK_spec : ∀ (off : Nat) (vs cs : List V) (k : List V → Prop), writeK cs off vs k → off + vs.length ≤ cs.length ∧ k (cs.take off ++ vs ++ cs.drop (off + vs.length))
  | 0, [], cs, k, h => ⟨by simp, by cases cs <;> simpa [writeK] using h⟩
  | 0, v :: vs, [], k, h => h.elim
  | 0, v :: vs, c :: cs, k, h => by
    obtain ⟨h1, h2⟩ := writeK_spec 0 vs cs _ h
    refine ⟨by simp at h1 ⊢; omega, ?_⟩
    have e : 0 + (v :: vs).length = (0 + vs.length) + 1 := by simp
    rw [e, List.drop_succ_cons]
    exact h2
  | n + 1, vs, [], k, h => by cases vs <;> exact h.elim
  | n + 1, vs, c :: cs, k, h => by
    have h' : writeK cs n vs fun s => k (c :: s) := by cases vs <;> exact h
    obtain ⟨h1, h2⟩ := writeK_spec n vs cs _ h'
    refine ⟨by simp; omega, ?_⟩
    rw [show n + 1 + vs.length = (n + vs.length) + 1 by omega, List.take_succ_cons, List.drop_succ_cons]
    exact h2
theorem natK_spec {a b : Nat} {p : Prop} (h : natK a b p) : a = b ∧ p := by
  unfold natK at h; split at h
  · rename_i e; exact ⟨Nat.eq_of_beq_eq_true e, h⟩
  · exact h.elim
theorem klK_spec {v : V} {p : Prop} (h : klK v p) : V.kl 40 v = true ∧ p := by
  unfold klK at h; split at h
  · rename_i e; exact ⟨e, h⟩
  · exact h.elim
theorem kllK_spec {v : List V} {p : Prop} (h : kllK v p) : V.klL 40 v = true ∧ p := by
  unfold kllK at h; split at h
  · rename_i e; exact ⟨e, h⟩
  · exact h.elim
theorem forcesK_spec {e : Env} : ∀ (l : List Operand) (k : List V → Prop), forcesK e l k → k (l.map e.rd)
  | [], k, h => h
  | x :: r, k, h => forcesK_spec r _ (forceK_iff.1 h)
theorem Br.cases {b : Bool} {p q : Prop} (h : Br b p q) : (b = true ∧ p) ∨ (b = false ∧ q) := by
  cases h with
  | t h => exact .inl ⟨rfl, h⟩
  | f h => exact .inr ⟨rfl, h⟩
theorem sameK_spec {k k' : IntKind} (h : sameK k k' = true) : k = k' := by cases k <;> cases k' <;> simp_all [sameK]
theorem is64_spec {k : IntKind} (h : is64 k = true) : k = .i64 := by cases k <;> simp_all [is64]

section
variable {P : Program} {cx : Cx} {h h' : Hp} {w w' : World} {R : Nat → Prop} {ρ : Rho} {c : Nat} {v : V} {x : Value} {e : Env}
theorem Rep.atom (x : Value) : Rep w R ρ (V.ofAtom x) x := by
  unfold V.ofAtom
  split
  · exact .bool
  · exact .int
  · rename_i s
    exact .str
  · exact .nils
  · exact .val rfl
  · exact .val rfl
  · exact .val rfl
  · exact .val rfl
  · exact .any
theorem Rep.const (x : Value) : Rep w R ρ (V.ofConst x) x := by
  unfold V.ofConst
  split
  · rename_i cs
    split
    · rename_i hx
      have : Value.agg cs = .agg cs.toList.toArray := by simp
      rw [this]
      refine .agg (by simp) (fun y hy => List.all_eq_true.1 hx y hy) fun i v x hv hx => ?_
      rw [List.getElem?_map, hx] at hv
      simp at hv
      subst hv
      exact .atom x
    · exact .any
  · exact .atom _

def isAggD : TypeDesc → Bool
  | .struct _ | .array _ _ => true
  | _ => false
def zB : V → Value → Bool
  | .bool b, .bool c => b == c
  | .int k n, .int k' m => sameK k k' && n == m
  | .str [], .string s => s.size == 0
  | .nils, .slice none 0 0 => true
  | .val (.pointer none), .pointer none | .val .nilIface, .nilIface | .val .nilFunc, .nilFunc | .val (.map none), .map none | .val (.chan none), .chan none => true
  | _, _ => false
theorem zB_spec {v : V} {x : Value} (h : zB v x = true) : Rep w R ρ v x ∧ Value.oneCell' x = true ∧ v.inner = true := by
  unfold zB at h
  split at h
  · simp at h; subst h; exact ⟨.bool, rfl, rfl⟩
  · simp at h; obtain ⟨h1, rfl⟩ := h; cases sameK_spec h1; exact ⟨.int, rfl, rfl⟩
  · rename_i s
    have h : s.size = 0 := by simpa using h
    have : s = ⟨([] : Bs).toArray⟩ := by
      obtain ⟨d⟩ := s
      have hd : d = #[] := Array.eq_empty_of_size_eq_zero h
      subst hd
      rfl
    subst this
    exact ⟨.str, rfl, rfl⟩
  · exact ⟨.nils, rfl, rfl⟩
  all_goals first | exact ⟨.val rfl, rfl, rfl⟩ | cases h
def zsB : List V → List Value → Bool
  | [], [] => true
  | v :: vs, x :: xs => zB v x && zsB vs xs
  | _, _ => false
theorem zsB_spec : ∀ {vs : List V} {xs : List Value}, zsB vs xs = true → Reps w R ρ vs xs ∧ ∀ x ∈ xs, Value.oneCell' x = true
  | [], [], _ => ⟨.nil, by simp⟩
  | [], _ :: _, h => by simp [zsB] at h
  | _ :: _, [], h => by simp [zsB] at h
  | v :: vs, x :: xs, h => by
    simp only [zsB, Bool.and_eq_true] at h
    obtain ⟨h1, h2⟩ := zsB_spec (vs := vs) (xs := xs) h.2
    obtain ⟨h3, h4, _⟩ := zB_spec (w := w) (R := R) (ρ := ρ) h.1
    exact ⟨.cons h3 h1, by intro y hy; rcases List.mem_cons.1 hy with rfl | hy; exact h4; exact h2 y hy⟩
def fsB (P : Program) : List (Nat × Nat × Bool) → List Field → Bool
  | [], [] => true
  | (o, s, a) :: r, f :: F => f.offset == o && (match P.underlying f.type, P.info? f.type with | some d, some i => isAggD d == a && i.size == s && s != 0 | _, _ => false) && fsB P r F
  | _, _ => false
theorem fsB_spec : ∀ {fs : List (Nat × Nat × Bool)} {F : List Field}, fsB P fs F = true → ∀ (j o s : Nat) (a : Bool), fs[j]? = some (o, s, a) → ∃ f d i, F[j]? = some f ∧ f.offset = o ∧ P.underlying f.type = some d ∧ P.info? f.type = some i ∧ isAggD d = a ∧ i.size = s ∧ s ≠ 0
  | [], F, _, j, o, s, a, h => by simp at h
  | (o', s', a') :: r, [], hh, j, o, s, a, h => by simp [fsB] at hh
  | (o', s', a') :: r, f :: F, hh, j, o, s, a, h => by
    simp only [fsB, Bool.and_eq_true] at hh
    obtain ⟨⟨h1, h2⟩, h3⟩ := hh
    cases j with
    | succ j => exact fsB_spec h3 j o s a (by simpa using h)
    | zero =>
      simp at h
      obtain ⟨rfl, rfl, rfl⟩ := h
      split at h2
      · rename_i d i hd hi
        simp at h2 h1
        exact ⟨f, d, i, rfl, h1, hd, hi, h2.1.1, h2.1.2, h2.2⟩
      · cases h2
def kindB : V → TypeDesc → Bool
  | .int k _, .int k' => k == k'
  | .bool _, .bool | .str _, .string | .val (.pointer none), .pointer _ | .val (.pointer none), .unsafePointer | .val .nilIface, .interface _ | .val .nilFunc, .func _ _ _ | .val (.map none), .map _ _ | .val (.chan none), .chan _ _ => true
  | _, _ => false
def tiOkB (P : Program) (t : TypeId) : TI → Bool
  | .word z => match P.underlying t, P.info? t with
    | some d, some i => !isAggD d && kindB z d && i.size == 1 && (match i.zero with | some x => zB z x | none => false)
    | _, _ => false
  | .struct fs zs => match P.underlying t, P.info? t with
    | some (.struct F), some i => i.size == zs.length && (match i.zero with | some (.agg cs) => zsB zs cs.toList | _ => false) && fsB P fs F.toList
    | _, _ => false
  | .slice el E => match P.underlying t, P.info? t, P.info? el with
    | some (.slice el'), some i, some ie => el == el' && i.size == 1 && (match i.zero with | some x => zB .nils x | none => false) && ie.size == E && decide (0 < E) && decide (ie.bytes ≤ 1024) && (match ie.zero with | some z => z.cells.size == E | none => false)
    | _, _, _ => false
  | .array n el E zs => match P.underlying t, P.info? t, P.info? el, P.underlying el with
    | some (.array n' el'), some i, some ie, some d => n == n' && el == el' && i.size == zs.length && zs.length == n * E && ie.size == E && E == 1 && !isAggD d && (match i.zero with | some (.agg cs) => zsB zs cs.toList | _ => false)
    | _, _, _, _ => false
def ekFields (rec : TypeId → Option (List EK)) (P : Program) : Nat → List Field → Option (List EK)
  | _, [] => some []
  | off, f :: F => match f.name != "_" && f.offset == off, rec f.type, P.info? f.type with
    | true, some ks, some i => if i.size == ks.length then (ekFields rec P (off + ks.length) F).map (ks ++ ·) else none
    | _, _, _ => none
def ek (P : Program) : Nat → TypeId → Option (List EK)
  | 0, _ => none
  | d + 1, t => match P.underlying t with
    | some .bool => some [.b]
    | some (.int _) => some [.n]
    | some .string => some [.s]
    | some (.struct F) => if P.stoodInHeld t then none else ekFields (ek P d) P 0 F.toList
    | some (.array n el) => match ek P d el, P.info? el with
      | some [k], some i => if i.size == 1 && P.cellsOf el == 1 then some (List.replicate n k) else none
      | _, _ => none
    | _ => none
def ekOkB (P : Program) (t : TypeId) (ks : List EK) : Bool := (match ek P 8 t with | some l => decide (l = ks) | none => false) && !P.eqGuardType P.depth t && (match P.underlying t with | some (.struct _) => true | some (.array _ _) => true | _ => false)
structure TabOk (P : Program) (T : Tab) : Prop where
  ti : ∀ t ti, T t = some ti → tiOkB P t ti = true
  eq : ∀ t ks, T.eq t = some ks → ekOkB P t ks = true
  imp : ∀ a d b, T.imp a d = some b → ∃ want i, P.underlying a = some (.interface want) ∧ P.info? d = some i ∧ (Instr.missingMethod want i.methods).isNone = b
  meth : ∀ t m f, T.meth t m = some (f, false) → ∀ v w, (method (P.types.size + Made.depth) t v m).run P w = .ok (f, v) w
  meth1 : ∀ t m f, T.meth t m = some (f, true) → ∀ v w, (method (P.types.size + Made.depth) t (.agg #[v]) m).run P w = .ok (f, v) w
  cmp : ∀ t, T.cmp t = true → ∃ i k, P.info? t = some i ∧ i.comparable = true ∧ P.underlying t = some (.int k)
  cmpP : ∀ t, T.cmpP t = true → ∃ i el j, P.info? t = some i ∧ i.comparable = true ∧ P.underlying t = some (.pointer el) ∧ P.info? el = some j ∧ j.size ≠ 0
instance {P : Program} {T : Tab} : CoeFun (TabOk P T) (fun _ => ∀ t ti, T t = some ti → tiOkB P t ti = true) := ⟨TabOk.ti⟩
/-- what a row of the table says: cells, and whether they come as a struct -/
theorem tiOk_any {t : TypeId} {ti : TI} (h : tiOkB P t ti = true) : ∃ d i z, P.underlying t = some d ∧ P.info? t = some i ∧ isAggD d = ti.isAgg ∧ i.size = ti.cells ∧ i.zero = some z ∧ (ti.isAgg = false → ti.cells = 1) ∧ ∀ w R ρ, Rep w R ρ ti.zero z ∧ ti.zero.inner = true := by
  cases ti with
  | word z =>
    simp only [tiOkB] at h
    split at h
    · rename_i d i hd hi
      simp only [Bool.and_eq_true] at h
      obtain ⟨⟨⟨h1, _⟩, h2⟩, h3⟩ := h
      split at h3
      · rename_i x hx
        refine ⟨d, i, x, hd, hi, by simpa [TI.isAgg] using h1, by simpa [TI.cells] using h2, hx, fun _ => rfl, fun w R ρ => ?_⟩
        obtain ⟨a, _, b⟩ := zB_spec (w := w) (R := R) (ρ := ρ) h3
        exact ⟨a, b⟩
      · cases h3
    · cases h
  | struct fs zs =>
    simp only [tiOkB] at h
    split at h
    · rename_i F i hd hi
      simp only [Bool.and_eq_true] at h
      obtain ⟨⟨h1, h2⟩, h3⟩ := h
      split at h2
      · rename_i cs hx
        refine ⟨_, i, _, hd, hi, rfl, by simpa [TI.cells] using h1, hx, fun h => (by simp [TI.isAgg] at h), fun w R ρ => ?_⟩
        obtain ⟨a, b⟩ := zsB_spec (w := w) (R := R) (ρ := ρ) h2
        refine ⟨?_, rfl⟩
        have : Value.agg cs = .agg cs.toList.toArray := by simp
        rw [this]
        exact .agg a.1 b a.2
      · cases h2
    · cases h
  | slice el E =>
    simp only [tiOkB] at h
    split at h
    · rename_i el' i ie hd hi he
      simp only [Bool.and_eq_true] at h
      obtain ⟨⟨⟨⟨⟨⟨h1, h2⟩, h3⟩, h4⟩, h5⟩, h6⟩, h7⟩ := h
      split at h3
      · rename_i x hx
        refine ⟨_, i, x, hd, hi, rfl, by simpa [TI.cells] using h2, hx, fun _ => rfl, fun w R ρ => ?_⟩
        obtain ⟨a, _, b⟩ := zB_spec (w := w) (R := R) (ρ := ρ) h3
        exact ⟨a, b⟩
      · cases h3
    · cases h
  | array n el E zs =>
    simp only [tiOkB] at h
    split at h
    · rename_i n' el' i ie d hd hi _ _
      simp only [Bool.and_eq_true] at h
      obtain ⟨⟨⟨⟨⟨⟨⟨h1, h2⟩, h3⟩, h4⟩, h5⟩, h6⟩, h7⟩, h8⟩ := h
      split at h8
      · rename_i cs hx
        refine ⟨_, i, _, hd, hi, rfl, by simpa [TI.cells] using h3, hx, fun h => (by simp [TI.isAgg] at h), fun w R ρ => ?_⟩
        obtain ⟨a, b⟩ := zsB_spec (w := w) (R := R) (ρ := ρ) h8
        refine ⟨?_, rfl⟩
        have : Value.agg cs = .agg cs.toList.toArray := by simp
        rw [this]
        exact .agg a.1 b a.2
      · cases h8
    · cases h
theorem tiOk_array {t el : TypeId} {n E : Nat} {zs : List V} (h : tiOkB P t (.array n el E zs) = true) : E = 1 ∧ zs.length = n ∧ P.underlying t = some (.array n el) ∧ ∃ ie d, P.info? el = some ie ∧ ie.size = 1 ∧ P.underlying el = some d ∧ isAggD d = false := by
  simp only [tiOkB] at h
  split at h
  · rename_i n' el' i ie d hd hi he hde
    simp only [Bool.and_eq_true] at h
    obtain ⟨⟨⟨⟨⟨⟨⟨h1, h2⟩, h3⟩, h4⟩, h5⟩, h6⟩, h7⟩, h8⟩ := h
    simp at h1 h2 h4 h5 h6 h7
    subst h1; subst h2; subst h6
    exact ⟨rfl, by omega, hd, ie, d, he, h5, hde, h7⟩
  · cases h
theorem tiOk_kind {t : TypeId} {z : V} (h : tiOkB P t (.word z) = true) : ∃ d, P.underlying t = some d ∧ kindB z d = true := by
  simp only [tiOkB] at h
  split at h
  · rename_i d i hd hi
    simp only [Bool.and_eq_true] at h
    exact ⟨d, hd, h.1.1.2⟩
  · cases h
theorem tiOk_bool {t : TypeId} {b : Bool} (h : tiOkB P t (.word (.bool b)) = true) : P.underlying t = some .bool := by
  obtain ⟨d, hd, hk⟩ := tiOk_kind h
  cases d <;> simp_all [kindB]
theorem tiOk_str {t : TypeId} {b : Bs} (h : tiOkB P t (.word (.str b)) = true) : P.underlying t = some .string := by
  obtain ⟨d, hd, hk⟩ := tiOk_kind h
  cases d <;> simp_all [kindB]
theorem tiOk_struct {t : TypeId} {fs : List (Nat × Nat × Bool)} {zs : List V} (h : tiOkB P t (.struct fs zs) = true) : ∃ F, P.underlying t = some (.struct F) ∧ ∀ (j o s : Nat) (a : Bool), fs[j]? = some (o, s, a) → ∃ f d i, F[j]? = some f ∧ f.offset = o ∧ P.underlying f.type = some d ∧ P.info? f.type = some i ∧ isAggD d = a ∧ i.size = s ∧ s ≠ 0 := by
  simp only [tiOkB] at h
  split at h
  · rename_i F i hd hi
    simp only [Bool.and_eq_true] at h
    exact ⟨F, hd, fun j o s a hj => by simpa using fsB_spec h.2 j o s a hj⟩
  · cases h
theorem tiOk_slice {t : TypeId} {el : TypeId} {E : Nat} (h : tiOkB P t (.slice el E) = true) : P.underlying t = some (.slice el) ∧ RowInfo P el E := by
  simp only [tiOkB] at h
  split at h
  · rename_i el' i ie hd hi he
    simp only [Bool.and_eq_true] at h
    obtain ⟨⟨⟨⟨⟨⟨h1, h2⟩, h3⟩, h4⟩, h5⟩, h6⟩, h7⟩ := h
    split at h7
    · rename_i z hz
      obtain rfl : el = el' := by simpa using h1
      exact ⟨hd, by simpa using h5, ie, z, he, by simpa using h4, by simpa using h6, hz, by simpa using h7⟩
    · cases h7
  · cases h
theorem tiOk_noIface {t : TypeId} {ti : TI} (h : tiOkB P t ti = true) (hn : ti ≠ .word (.val .nilIface)) : ∃ d, P.underlying t = some d ∧ ∀ m, d ≠ .interface m := by
  cases ti with
  | word z =>
    obtain ⟨d, hd, hk⟩ := tiOk_kind h
    refine ⟨d, hd, fun m e => hn ?_⟩
    subst e
    unfold kindB at hk
    split at hk <;> simp_all
  | struct fs zs => obtain ⟨F, hF, _⟩ := tiOk_struct h; exact ⟨_, hF, by simp⟩
  | slice el E => exact ⟨_, (tiOk_slice h).1, by simp⟩
  | array n el E zs => exact ⟨_, (tiOk_array h).2.2.1, by simp⟩
def eqOkB (P : Program) : Nat → List (Option (List EK)) → Bool
  | _, [] => true
  | k, none :: r => eqOkB P (k + 1) r
  | k, some ks :: r => ekOkB P k ks && eqOkB P (k + 1) r
def tabOkB (P : Program) : Nat → List (Option TI) → Bool
  | _, [] => true
  | k, none :: r => tabOkB P (k + 1) r
  | k, some ti :: r => tiOkB P k ti && tabOkB P (k + 1) r
end
end Go.Proofs.YthchmjdgepbjpaaDoor

-- tabvar