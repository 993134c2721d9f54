/-
  A region that draws its order: what AbsDef's walk says of it in the text's order it does in every order that its edges allow, if the operations ahead of a tail in forced order are calm (they only look, compute, and make memory). No conditions but a closed test over the region.
-/
import Derived.Test.YthcbffejjkmmfaaAbsReg
namespace Go.Proofs.Ythcbffejjkmmfaa
open Go.RowKit
set_option linter.unusedSimpArgs false
set_option linter.unusedVariables false

def guards (ops : List Oper) (o : Oper) : List Tmp :=
  match o.guard with
  | some (g, _) => match ops[g]? with | some q => q.dst.toList | none => []
  | none => []
def looks (ops : List Oper) (o : Oper) : List Tmp := (o.op.operands.toList.filterMap fun | .tmp t => some t | _ => none) ++ guards ops o
/-- operation i waits, step by step, for j -/
inductive Reach (ops : List Oper) : Nat → Nat → Prop
  | one {i j : Nat} {o : Oper} (h : ops[i]? = some o) (hw : waits o j = true) : Reach ops i j
  | step {i k j : Nat} {o : Oper} (h : ops[i]? = some o) (hw : waits o k = true) (hr : Reach ops k j) : Reach ops i j
def maskOf (acc : List Nat) (o : Oper) : Nat := o.after.toList.foldl (fun s e => match Region.binds .any e with | true => s ||| (2 ^ e.on ||| acc.getD e.on 0) | false => s) 0
def masks : List Oper → List Nat → List Nat
  | [], acc => acc
  | o :: r, acc => masks r (acc ++ [maskOf acc o])
theorem maskOf_spec {acc : List Nat} {o : Oper} {j : Nat} (h : (maskOf acc o).testBit j = true) : waits o j = true ∨ ∃ k, waits o k = true ∧ (acc.getD k 0).testBit j = true := by
  unfold maskOf at h
  have key : ∀ (l : List Edge) (s : Nat), (l.foldl (fun s e => match Region.binds .any e with | true => s ||| (2 ^ e.on ||| acc.getD e.on 0) | false => s) s).testBit j = true → s.testBit j = true ∨ ∃ e ∈ l, Region.binds .any e = true ∧ (e.on = j ∨ (acc.getD e.on 0).testBit j = true) := by
    intro l
    induction l with
    | nil => intro s hs; exact .inl hs
    | cons e l ih =>
      intro s hs
      simp only [List.foldl_cons] at hs
      rcases ih _ hs with h1 | ⟨e', he', h1⟩
      · cases hb : Region.binds .any e with
        | false => simp only [hb] at h1; exact .inl h1
        | true =>
          simp only [hb, Nat.testBit_or, Bool.or_eq_true, Nat.testBit_two_pow, decide_eq_true_eq] at h1
          rcases h1 with h1 | h1 | h1
          · exact .inl h1
          · exact .inr ⟨e, List.mem_cons_self, hb, .inl h1⟩
          · exact .inr ⟨e, List.mem_cons_self, hb, .inr h1⟩
      · exact .inr ⟨e', List.mem_cons_of_mem _ he', h1⟩
  rcases key _ _ h with h1 | ⟨e, he, hb, h1⟩
  · simp at h1
  · have hw : waits o e.on = true := List.any_eq_true.2 ⟨e, he, by rw [hb, Nat.beq_refl]; rfl⟩
    rcases h1 with rfl | h1
    · exact .inl hw
    · exact .inr ⟨_, hw, h1⟩
theorem masks_spec {ops : List Oper} : ∀ (l : List Oper) (acc : List Nat), ops.drop acc.length = l → (∀ i j, i < acc.length → (acc.getD i 0).testBit j = true → Reach ops i j) → ∀ i j, ((masks l acc).getD i 0).testBit j = true → Reach ops i j
  | [], acc, hd, hacc, i, j, h => by
    simp only [masks] at h
    rcases Nat.lt_or_ge i acc.length with h1 | h1
    · exact hacc i j h1 h
    · rw [List.getD_eq_getElem?_getD, List.getElem?_eq_none h1] at h; simp at h
  | o :: r, acc, hd, hacc, i, j, h => by
    have ho : ops[acc.length]? = some o := by
      have := congrArg (fun l => l[0]?) hd
      simpa [List.getElem?_drop] using this
    refine masks_spec r (acc ++ [maskOf acc o]) (by rw [List.length_append, List.length_singleton, ← List.drop_drop, hd]; rfl) (fun i j hi hb => ?_) i j h
    rw [List.length_append, List.length_singleton] at hi
    rcases Nat.lt_or_ge i acc.length with h1 | h1
    · rw [List.getD_eq_getElem?_getD, List.getElem?_append_left h1, ← List.getD_eq_getElem?_getD] at hb
      exact hacc i j h1 hb
    · have hi' : i = acc.length := by omega
      subst hi'
      rw [List.getD_eq_getElem?_getD, List.getElem?_append_right (Nat.le_refl _), Nat.sub_self] at hb
      simp only [List.getElem?_cons_zero, Option.getD_some] at hb
      rcases maskOf_spec hb with h2 | ⟨k, h2, h3⟩
      · exact .one ho h2
      · have hk : k < acc.length := by
          rcases Nat.lt_or_ge k acc.length with h4 | h4
          · exact h4
          · rw [List.getD_eq_getElem?_getD, List.getElem?_eq_none h4] at h3; simp at h3
        exact .step ho h2 (hacc k j hk h3)
/-- the test: n operations that are calm, or stores that wait for the stores ahead; each slot written once, each read behind its write; then a tail in the text's order -/
def drawB (ops : List Oper) (n : Nat) : Bool :=
  (List.range ops.length).all fun i => match ops[i]? with
    | none => true
    | some o =>
      (o.after.toList.all fun e => !Region.binds .any e || Nat.blt e.on i) &&
      (match Nat.blt i n with
      | true => (isMid o || Nat.blt (cls o.op) 2) &&
          (List.range ops.length).all fun j => match ops[j]? with
            | none => true
            | some q => (match q.dst with
              | none => true
              | some t => (!(looks ops o).contains t || (Nat.blt j i && waits o j)) && (Nat.beq i j || !(Nat.blt j n) || !(o.dst == some t)) && (!isMid o || !(Nat.beq (midSlot o) t) || hidB ops q)) &&
              (!(isMid o && isMid q && Nat.blt j i) || waits o j)
      | false => (List.range i).all fun j => ((masks ops []).getD i 0).testBit j)

theorem waits_spec {o : Oper} {j : Nat} (h : waits o j = true) : ∃ e ∈ o.after, Region.binds .any e = true ∧ e.on = j := by
  unfold waits at h
  obtain ⟨e, he, hb⟩ := List.any_eq_true.1 h
  simp only [Bool.and_eq_true] at hb
  exact ⟨e, by simpa using he, hb.1, Nat.eq_of_beq_eq_true hb.2⟩
structure Draws (ops : List Oper) (n : Nat) : Prop where
  back : ∀ i o, ops[i]? = some o → ∀ e ∈ o.after, Region.binds .any e = true → e.on < i
  calm : ∀ i o, i < n → ops[i]? = some o → isMid o = false → cls o.op < 2
  reads : ∀ i o j q t, i < n → ops[i]? = some o → ops[j]? = some q → q.dst = some t → t ∈ looks ops o → j < i ∧ waits o j = true
  once : ∀ i o j q t, i < n → j < n → ops[i]? = some o → ops[j]? = some q → o.dst = some t → q.dst = some t → i = j
  chain : ∀ (i : Nat) (o : Oper) (j : Nat) (q : Oper), i < n → ops[i]? = some o → ops[j]? = some q → isMid o = true → isMid q = true → j < i → waits o j = true
  slot : ∀ (i : Nat) (o : Oper) (j : Nat) (q : Oper), i < n → ops[i]? = some o → isMid o = true → ops[j]? = some q → q.dst = some (midSlot o) → hidB ops q = true
  tail : ∀ i o j, n ≤ i → ops[i]? = some o → j < i → Reach ops i j
theorem draws_of {ops : List Oper} {n : Nat} (h : drawB ops n = true) : Draws ops n := by
  have key : ∀ i o, ops[i]? = some o → _ := fun i o hi => by
    have := List.all_eq_true.1 h i (List.mem_range.2 (List.getElem?_eq_some_iff.1 hi).1)
    simp only [hi, Bool.and_eq_true] at this
    exact this
  have pre : ∀ i o, i < n → ops[i]? = some o → (isMid o = true ∨ cls o.op < 2) ∧ ∀ j q, ops[j]? = some q → (∀ t, q.dst = some t → (t ∈ looks ops o → j < i ∧ waits o j = true) ∧ (i = j ∨ ¬ j < n ∨ o.dst ≠ some t) ∧ (isMid o = true → midSlot o = t → hidB ops q = true)) ∧ (isMid o = true → isMid q = true → j < i → waits o j = true) := fun i o hn hi => by
    have h2 := (key i o hi).2
    rw [show Nat.blt i n = true from by simpa [Nat.blt_eq] using hn] at h2
    simp only [Bool.and_eq_true, Bool.or_eq_true] at h2
    refine ⟨h2.1.imp id (by simp [Nat.blt_eq]), fun j q hj => ?_⟩
    have h3 := List.all_eq_true.1 h2.2 j (List.mem_range.2 (List.getElem?_eq_some_iff.1 hj).1)
    simp only [hj, Bool.and_eq_true] at h3
    refine ⟨fun t hd => ?_, fun m1 m2 m3 => ?_⟩
    · have h4 := h3.1
      simp only [hd, Bool.and_eq_true, Bool.or_eq_true] at h4
      refine ⟨fun ht => ?_, ?_, fun hm hs => ?_⟩
      · rcases h4.1.1 with h5 | h5
        · simp at h5; exact absurd ht h5
        · exact ⟨by simpa [Nat.blt_eq] using h5.1, h5.2⟩
      · rcases h4.1.2 with (h5 | h5) | h5
        · exact .inl (Nat.eq_of_beq_eq_true h5)
        · exact .inr (.inl (fun hh => by rw [show Nat.blt j n = true from by simpa [Nat.blt_eq] using hh] at h5; cases h5))
        · exact .inr (.inr (by simpa using h5))
      · have h5 := h4.2
        rw [hm, hs, Nat.beq_refl] at h5
        simpa using h5
    · have h4 := h3.2
      rw [m1, m2, show Nat.blt j i = true from by simpa [Nat.blt_eq] using m3] at h4
      simpa using h4
  refine ⟨fun i o hi e he hb => ?_, fun i o hn hi hm => ?_, fun i o j q t hn hi hj hd ht => ((pre i o hn hi).2 j q hj).1 t hd |>.1 ht, fun i o j q t hn hjn hi hj hd hd' => ?_, fun i o j q hn hi hj m1 m2 m3 => ((pre i o hn hi).2 j q hj).2 m1 m2 m3, fun i o j q hn hi hm hj hd => (((pre i o hn hi).2 j q hj).1 _ hd).2.2 hm rfl, fun i o j hn hi hj => ?_⟩
  · have := List.all_eq_true.1 (key i o hi).1 e (by simpa using he)
    simp only [hb, Bool.not_true, Bool.false_or] at this
    simpa [Nat.blt_eq] using this
  · rcases (pre i o hn hi).1 with h1 | h1
    · rw [hm] at h1; cases h1
    · exact h1
  · rcases (((pre i o hn hi).2 j q hj).1 t hd').2.1 with h1 | h1 | h1
    · exact h1
    · exact absurd hjn h1
    · exact absurd hd h1
  · have h2 := (key i o hi).2
    rw [show Nat.blt i n = false from by rw [← Bool.not_eq_true]; simp [Nat.blt_eq]; omega] at h2
    exact masks_spec ops [] rfl (fun i j hi => by simp at hi) i j (List.all_eq_true.1 h2 j (List.mem_range.2 hj))

section
variable {P : Program} {cx : Cx} {T : Tab} {C : FuncId → List V → V → Prop} {N : Nat}

/-- the calm operations, one behind the other: what each yields, what block it makes -/
structure Pre (P : Program) (cx : Cx) (ops : List Oper) (n c0 : Nat) (e0 : Env) (h0 : Hp) (val : Nat → V) (blk : Nat → Option Blk) (E : Nat → Env) (H : Nat → Hp) : Prop where
  e0 : E 0 = e0
  h0 : H 0 = h0
  step : ∀ i o, i < n → ops[i]? = some o → E (i + 1) = (E i).put o.dst (val i) ∧ H (i + 1) = (if hidB ops o then H i else (H i).setO (c0 + i) (blk i)) ∧ (blk i ≠ none → H i (c0 + i) = none) ∧ (hidB ops o = true → val i = .ptr (c0 + i) 0 ∧ blk i ≠ none) ∧
    ((isMid o = true ∧ blk i = none) ∨ (isMid o = false ∧ ((gv ops (E i) o.guard = some true ∧ CalmOk P cx (c0 + i) o (E i) (H i) (val i) (blk i)) ∨ (gv ops (E i) o.guard = some false ∧ val i = .und ∧ blk i = none))))
theorem isMid_spec {o : Oper} (h : isMid o = true) : o.dst = none ∧ o.guard = none ∧ ∃ t y, o.op = .store t (.tmp (midSlot o)) y := by
  obtain ⟨dst, op, ty, pos, af, gd⟩ := o
  cases op <;> try (simp [isMid] at h; done)
  rename_i t x y
  cases x <;> try (simp [isMid] at h; done)
  rename_i s
  cases dst <;> try (simp [isMid] at h; done)
  cases gd <;> try (simp [isMid] at h; done)
  exact ⟨rfl, rfl, t, y, rfl⟩
theorem hidB_spec {ops : List Oper} {o : Oper} (h : hidB ops o = true) : o.guard = none ∧ (∃ d, o.dst = some d) ∧ ∃ t, o.op = .alloc t := by
  obtain ⟨dst, op, ty, pos, af, gd⟩ := o
  cases op <;> try (simp [hidB] at h; done)
  cases gd <;> try (simp [hidB] at h; done)
  cases dst <;> try (simp [hidB] at h; done)
  exact ⟨rfl, ⟨_, rfl⟩, _, rfl⟩
theorem hidB_mid {ops : List Oper} {o : Oper} (h : isMid o = true) : hidB ops o = false := by
  obtain ⟨_, _, t, y, hop⟩ := isMid_spec h
  simp only [hidB, hop]
theorem opK_alloc {c : Nat} {o : Oper} {e : Env} {h : Hp} {K : V → Hp → Prop} {t : TypeId} (ho : o.op = .alloc t) (hk : opK C T c o e h K) :
    opK C T c o e h fun v h' => (v = .ptr c 0 ∧ h c = none ∧ ∃ b, h' = h.set c (some b)) ∧ K v h' := by
  simp only [opK, ho] at hk ⊢
  split at hk
  · split at hk
    · rename_i hh; refine ⟨?_, hk⟩; simp only [true_and]; exact ⟨hh, _, rfl⟩
    · exact hk.elim
  · exact hk.elim
theorem drop_cons {ops : List Oper} {m : Nat} {o : Oper} {r : List Oper} (h : ops.drop m = o :: r) : ops[m]? = some o ∧ ops.drop (m + 1) = r ∧ m < ops.length := by
  have h1 := congrArg (fun l => l[0]?) h
  simp only [List.getElem?_drop, Nat.add_zero, List.getElem?_cons_zero] at h1
  exact ⟨h1, by rw [← List.drop_drop, h]; rfl, (List.getElem?_eq_some_iff.1 h1).1⟩
theorem tailN_le : ∀ (l : List Oper) (m : Nat), m ≤ tailN m l ∧ tailN m l ≤ m + l.length
  | [], m => ⟨Nat.le_refl _, Nat.le_refl _⟩
  | o :: r, m => by
    simp only [tailN]
    split
    · exact ⟨Nat.le_refl _, by omega⟩
    · have := tailN_le r (m + 1); simp only [List.length_cons]; omega
theorem pre_of (hT : TabOk P T) (hC : ∀ f args r, C f args r → Fn P f args r) {ops : List Oper} {n : Nat} (hd : Draws ops n) {c0 : Nat} {K : Env → Hp → Hp → Prop} : ∀ (l : List Oper) (m : Nat) (e : Env) (h hf : Hp), ops.drop m = l → tailN m l = n → calmK C T ops c0 m l e h hf K →
    ∃ (val : Nat → V) (blk : Nat → Option Blk) (E : Nat → Env) (H : Nat → Hp) (F : Hp), E m = e ∧ H m = h ∧ (∀ i o, m ≤ i → i < n → ops[i]? = some o → E (i + 1) = (E i).put o.dst (val i) ∧ H (i + 1) = (if hidB ops o then H i else (H i).setO (c0 + i) (blk i)) ∧ (blk i ≠ none → H i (c0 + i) = none) ∧ (hidB ops o = true → val i = .ptr (c0 + i) 0 ∧ blk i ≠ none) ∧
      ((isMid o = true ∧ blk i = none) ∨ (isMid o = false ∧ ((gv ops (E i) o.guard = some true ∧ CalmOk P cx (c0 + i) o (E i) (H i) (val i) (blk i)) ∨ (gv ops (E i) o.guard = some false ∧ val i = .und ∧ blk i = none))))) ∧
      ((∀ i o, m ≤ i → i < n → ops[i]? = some o → hidB ops o = true → F (c0 + i) = blk i) ∧ ∀ k, (∀ i o, m ≤ i → i < n → ops[i]? = some o → hidB ops o = true → k ≠ c0 + i) → F k = hf k) ∧ K (E n) (H n) F
  | [], m, e, h, hf, _, hn, hk => by
    simp only [tailN] at hn
    subst hn
    exact ⟨fun _ => .und, fun _ => none, fun _ => e, fun _ => h, hf, rfl, rfl, fun i o h1 h2 => by omega, ⟨fun i o h1 h2 => by omega, fun k _ => rfl⟩, hk⟩
  | o :: r, m, e, h, hf, hdr, hn, hk => by
    obtain ⟨hi, hdr', hlt⟩ := drop_cons hdr
    simp only [tailN] at hn
    simp only [calmK] at hk
    split at hn
    · rename_i hat
      subst hn
      simp only [hat] at hk
      exact ⟨fun _ => .und, fun _ => none, fun _ => e, fun _ => h, hf, rfl, rfl, fun i o h1 h2 => by omega, ⟨fun i o h1 h2 => by omega, fun k _ => rfl⟩, hk⟩
    · rename_i hat
      simp only [hat] at hk
      have hmn : m < n := by have := (tailN_le r (m + 1)).1; omega
      have fin : ∀ (v : V) (b : Option Blk), (b ≠ none → h (c0 + m) = none) → (hidB ops o = true → v = .ptr (c0 + m) 0 ∧ b ≠ none) → ((isMid o = true ∧ b = none) ∨ (isMid o = false ∧ ((gv ops e o.guard = some true ∧ CalmOk P cx (c0 + m) o e h v b) ∨ (gv ops e o.guard = some false ∧ v = .und ∧ b = none)))) →
          calmK C T ops c0 (m + 1) r (e.put o.dst v) (if hidB ops o then h else h.setO (c0 + m) b) (if hidB ops o then hf.set (c0 + m) b else hf) K →
          ∃ (val : Nat → V) (blk : Nat → Option Blk) (E : Nat → Env) (H : Nat → Hp) (F : Hp), E m = e ∧ H m = h ∧ (∀ i o, m ≤ i → i < n → ops[i]? = some o → E (i + 1) = (E i).put o.dst (val i) ∧ H (i + 1) = (if hidB ops o then H i else (H i).setO (c0 + i) (blk i)) ∧ (blk i ≠ none → H i (c0 + i) = none) ∧ (hidB ops o = true → val i = .ptr (c0 + i) 0 ∧ blk i ≠ none) ∧
      ((isMid o = true ∧ blk i = none) ∨ (isMid o = false ∧ ((gv ops (E i) o.guard = some true ∧ CalmOk P cx (c0 + i) o (E i) (H i) (val i) (blk i)) ∨ (gv ops (E i) o.guard = some false ∧ val i = .und ∧ blk i = none))))) ∧
      ((∀ i o, m ≤ i → i < n → ops[i]? = some o → hidB ops o = true → F (c0 + i) = blk i) ∧ ∀ k, (∀ i o, m ≤ i → i < n → ops[i]? = some o → hidB ops o = true → k ≠ c0 + i) → F k = hf k) ∧ K (E n) (H n) F := fun v b h1 hx h2 h3 => by
        obtain ⟨val, blk, E, H, F, q1, q2, q3, ⟨q5, q6⟩, q4⟩ := pre_of hT hC hd r (m + 1) _ _ _ hdr' hn h3
        refine ⟨fun i => if i = m then v else val i, fun i => if i = m then b else blk i, fun i => if i = m then e else E i, fun i => if i = m then h else H i, F, by simp, by simp, fun i o' hmi hin hio => ?_, ⟨fun i o' hmi hin hio hh => ?_, fun k hk => ?_⟩, ?_⟩
        · by_cases ei : i = m
          · subst ei
            rw [hi] at hio
            cases hio
            simp only [if_pos, if_neg (show ¬ i + 1 = i by omega)]
            exact ⟨q1, q2, h1, hx, h2⟩
          · simp only [if_neg ei, if_neg (show ¬ i + 1 = m by omega)]
            exact q3 i o' (by omega) hin hio
        · by_cases ei : i = m
          · subst ei
            rw [hi] at hio
            cases hio
            rw [q6 (c0 + i) (fun j _ hj _ _ _ => by omega)]
            simp only [hh, if_true, Hp.set_same]
          · simp only [if_neg ei]
            exact q5 i o' (by omega) hin hio hh
        · rw [q6 k (fun j o' hj hjn ho' hh => hk j o' (by omega) hjn ho' hh)]
          split
          · rename_i hh; rw [Hp.set_other _ _ (hk m o (Nat.le_refl _) hmn hi hh)]
          · rfl
        · simp only [if_neg (show ¬ n = m by omega)]
          exact q4
      cases hm : isMid o with
      | true =>
        simp only [hm] at hk
        obtain ⟨hdst, _, _⟩ := isMid_spec hm
        have hh := hidB_mid (ops := ops) hm
        exact fin .und none (fun h => absurd rfl h) (fun h => by rw [hh] at h; cases h) (.inl ⟨hm, rfl⟩) (by rw [hdst, hh]; exact hk)
      | false =>
        cases hh : hidB ops o with
        | true =>
          obtain ⟨hg, ⟨d, hdst⟩, t, hop⟩ := hidB_spec hh
          simp only [hm, hh, hdst] at hk
          obtain ⟨v, h', hst, ⟨h1, h2, b', h3⟩, hk⟩ := opK_sound (cx := cx) hT hC _ (opK_alloc hop hk)
          obtain ⟨b, hb0, hb1, hb2⟩ := hst.calm (hd.calm m _ hmn hi hm)
          have hb : b = some b' := by
            have := congrFun (hb0.symm.trans h3) (c0 + m)
            cases b with
            | none => rw [Hp.setO, Hp.set_same, h2] at this; cases this
            | some b => rw [Hp.setO, Hp.set_same, Hp.set_same] at this; exact this
          subst hb
          refine fin v (some b') hb1 (fun _ => ⟨h1, by simp⟩) (.inr ⟨hm, .inl ⟨by rw [hg]; rfl, hb2⟩⟩) ?_
          rw [h3, Hp.set_same] at hk
          rw [hdst, hh]
          exact hk
        | false =>
          have hk' : guardK ops e o.guard (opK C T (c0 + m) o e h fun v h' => calmK C T ops c0 (m + 1) r (e.put o.dst v) h' hf K) (calmK C T ops c0 (m + 1) r (e.put o.dst .und) h hf K) := by
            cases hdst : o.dst with
            | none => simp only [hm, hh, hdst] at hk; exact hk
            | some d => simp only [hm, hh, hdst] at hk; exact hk
          have no : ∀ {p : Prop}, hidB ops o = true → p := fun h => by rw [hh] at h; cases h
          rcases guardK_spec hk' with ⟨hg, hk⟩ | ⟨hg, hk⟩
          · obtain ⟨v, h', hst, hk⟩ := opK_sound (cx := cx) hT hC _ hk
            obtain ⟨b, rfl, hb1, hb2⟩ := hst.calm (hd.calm m _ hmn hi hm)
            exact fin v b hb1 no (.inr ⟨hm, .inl ⟨hg, hb2⟩⟩) (by rw [hh]; exact hk)
          · exact fin .und none (fun h => absurd rfl h) no (.inr ⟨hm, .inr ⟨hg, rfl, rfl⟩⟩) (by rw [hh]; exact hk)
/-- the stores that may come early -/
theorem mid_of (hT : TabOk P T) (hC : ∀ f args r, C f args r → Fn P f args r) {ops : List Oper} {n : Nat} {c0 : Nat} {e : Env} {K : Hp → Prop} : ∀ (l : List Oper) (m : Nat) (h : Hp), ops.drop m = l → tailN m l = n → midK C T c0 m l e h K →
    ∃ (G : Nat → Hp) (kz : Nat → Nat) (bz : Nat → Blk), G m = h ∧ (∀ i o, m ≤ i → i < n → ops[i]? = some o → (isMid o = false ∧ G (i + 1) = G i) ∨ (isMid o = true ∧ G (i + 1) = (G i).set (kz i) (some (bz i)) ∧ StoreOk P cx o e (G i) (kz i) (bz i) ∧ ((∃ off, e (midSlot o) = .ptr (kz i) off) ∨ ∃ E' j off, e (midSlot o) = .oelt (kz i) E' j off))) ∧ K (G n)
  | [], m, h, _, hn, hk => by
    simp only [tailN] at hn
    subst hn
    exact ⟨fun _ => h, fun _ => 0, fun _ => .dead, rfl, fun i o h1 h2 => by omega, hk⟩
  | o :: r, m, h, hdr, hn, hk => by
    obtain ⟨hi, hdr', hlt⟩ := drop_cons hdr
    simp only [tailN] at hn
    simp only [midK] at hk
    split at hn
    · rename_i hat
      subst hn
      simp only [hat] at hk
      exact ⟨fun _ => h, fun _ => 0, fun _ => .dead, rfl, fun i o h1 h2 => by omega, hk⟩
    · rename_i hat
      simp only [hat] at hk
      have hmn : m < n := by have := (tailN_le r (m + 1)).1; omega
      cases hm : isMid o with
      | true =>
        simp only [hm] at hk
        obtain ⟨_, _, t, y, hop⟩ := isMid_spec hm
        obtain ⟨v, h', hst, hk⟩ := opK_sound (cx := cx) hT hC _ hk
        obtain ⟨k, b, rfl, hso, _, hkk⟩ := hst.store _ _ _ hop
        obtain ⟨G, kz, bz, q1, q2, q3⟩ := mid_of hT hC r (m + 1) _ hdr' hn hk
        refine ⟨fun i => if i = m then h else G i, fun i => if i = m then k else kz i, fun i => if i = m then b else bz i, by simp, fun i o' hmi hin hio => ?_, by simp only [if_neg (show ¬ n = m by omega)]; exact q3⟩
        by_cases ei : i = m
        · subst ei
          rw [hi] at hio
          cases hio
          simp only [if_pos, if_neg (show ¬ i + 1 = i by omega)]
          exact .inr ⟨hm, q1, hso, hkk⟩
        · simp only [if_neg ei, if_neg (show ¬ i + 1 = m by omega)]
          exact q2 i o' (by omega) hin hio
      | false =>
        simp only [hm] at hk
        obtain ⟨G, kz, bz, q1, q2, q3⟩ := mid_of hT hC r (m + 1) _ hdr' hn hk
        refine ⟨fun i => if i = m then h else G i, kz, bz, by simp, fun i o' hmi hin hio => ?_, by simp only [if_neg (show ¬ n = m by omega)]; exact q3⟩
        by_cases ei : i = m
        · subst ei
          rw [hi] at hio
          cases hio
          simp only [if_pos, if_neg (show ¬ i + 1 = i by omega)]
          exact .inl ⟨hm, q1⟩
        · simp only [if_neg ei, if_neg (show ¬ i + 1 = m by omega)]
          exact q2 i o' (by omega) hin hio
theorem tail_of {ops : List Oper} {n : Nat} {c0 : Nat} {e : Env} {h : Hp} {K : Env → Hp → Prop} : ∀ (l : List Oper) (m : Nat), ops.drop m = l → tailN m l = n → tailK C T ops c0 m l e h K → opsK C T ops (c0 + n) (ops.drop n) e h K
  | [], m, hd, hn, hk => by simp only [tailN] at hn; subst hn; rw [hd]; exact hk
  | o :: r, m, hd, hn, hk => by
    simp only [tailN] at hn
    simp only [tailK] at hk
    split at hn
    · rename_i hat; subst hn; simp only [hat] at hk; rw [hd]; exact hk
    · rename_i hat; simp only [hat] at hk; exact tail_of r (m + 1) (drop_cons hd).2.1 hn hk
/-- what was hidden -/
theorem hide_of {ops : List Oper} {n : Nat} {c0 : Nat} {e : Env} {K : Hp → List Nat → Prop} : ∀ (l : List Oper) (m : Nat) (h : Hp), ops.drop m = l → tailN m l = n → hideK ops e c0 m l h K →
    ∃ h1 Z, K h1 Z ∧ (∀ k, k ∉ Z → h1 k = h k) ∧ (∀ k, k ∈ Z → h1 k = none) ∧ (∀ k, k ∈ Z → k < c0 ∨ c0 + ops.length ≤ k) ∧ ∀ i o, m ≤ i → i < n → ops[i]? = some o → isMid o = true → homeB ops (midSlot o) = true ∨ ∃ k off, e (midSlot o) = .ptr k off ∧ k ∈ Z
  | [], m, h, _, hn, hk => by
    simp only [tailN] at hn
    subst hn
    exact ⟨h, [], hk, fun _ _ => rfl, fun k hk => (by cases hk), fun k hk => (by cases hk), fun i o h1 h2 => by omega⟩
  | o :: r, m, h, hdr, hn, hk => by
    obtain ⟨hi, hdr', hlt⟩ := drop_cons hdr
    simp only [tailN] at hn
    simp only [hideK] at hk
    split at hn
    · rename_i hat
      subst hn
      simp only [hat] at hk
      exact ⟨h, [], hk, fun _ _ => rfl, fun k hk => (by cases hk), fun k hk => (by cases hk), fun i o h1 h2 => by omega⟩
    · rename_i hat
      simp only [hat] at hk
      cases hm : isMid o with
      | false =>
        simp only [hm] at hk
        obtain ⟨h1, Z, q1, q2, q3, q4, q5⟩ := hide_of r (m + 1) h hdr' hn hk
        refine ⟨h1, Z, q1, q2, q3, q4, fun i o' hmi hin hio hmid => ?_⟩
        by_cases ei : i = m
        · subst ei; rw [hi] at hio; cases hio; rw [hm] at hmid; cases hmid
        · exact q5 i o' (by omega) hin hio hmid
      | true =>
        simp only [hm] at hk
        split at hk
        · rename_i hhome
          obtain ⟨h1, Z, q1, q2, q3, q4, q5⟩ := hide_of r (m + 1) h hdr' hn hk
          refine ⟨h1, Z, q1, q2, q3, q4, fun i o' hmi hin hio hmid => ?_⟩
          by_cases ei : i = m
          · subst ei; rw [hi] at hio; cases hio; exact .inl hhome
          · exact q5 i o' (by omega) hin hio hmid
        split at hk
        · rename_i k off hslot
          have key : (k < c0 ∨ c0 + ops.length ≤ k) ∧ hideK ops e c0 (m + 1) r (h.set k none) fun h' Z => K h' (k :: Z) := by
            split at hk
            · rename_i h1
              split at hk
              · exact hk.elim
              · rename_i h2
                refine ⟨.inr ?_, hk⟩
                rw [← Bool.not_eq_true] at h2
                simpa [Nat.blt_eq] using h2
            · rename_i h1
              refine ⟨.inl ?_, hk⟩
              rw [← Bool.not_eq_true] at h1
              have : ¬ c0 ≤ k := fun hh => h1 (Nat.ble_eq_true_of_le hh)
              omega
          obtain ⟨hrange, hk⟩ := key
          obtain ⟨h1, Z, q1, q2, q3, q4, q5⟩ := hide_of r (m + 1) _ hdr' hn hk
          refine ⟨h1, k :: Z, q1, fun j hj => ?_, fun j hj => ?_, fun j hj => ?_, fun i o' hmi hin hio hmid => ?_⟩
          · simp only [List.mem_cons, not_or] at hj
            rw [q2 j hj.2, Hp.set_other h _ hj.1]
          · by_cases hz : j ∈ Z
            · exact q3 j hz
            · rcases List.mem_cons.1 hj with rfl | h2
              · rw [q2 j hz, Hp.set_same]
              · exact absurd h2 hz
          · rcases List.mem_cons.1 hj with rfl | h2
            · exact hrange
            · exact q4 j h2
          · by_cases ei : i = m
            · subst ei; rw [hi] at hio; cases hio; exact .inr ⟨k, off, hslot, List.mem_cons_self⟩
            · rcases q5 i o' (by omega) hin hio hmid with a0 | ⟨k', off', a1, a2⟩
              · exact .inl a0
              · exact .inr ⟨k', off', a1, List.mem_cons_of_mem _ a2⟩
        · exact hk.elim
variable {ops : List Oper} {n c0 : Nat} {e0 : Env} {h0 : Hp} {val : Nat → V} {blk : Nat → Option Blk} {E : Nat → Env} {H : Nat → Hp}
theorem setO_sub {h : Hp} {c : Nat} {b : Option Blk} (hb : b ≠ none → h c = none) : ∀ k x, h k = some x → h.setO c b k = some x := fun k x hk => by
  cases b with
  | none => exact hk
  | some b =>
    have : k ≠ c := fun e => by subst e; rw [hb (by simp)] at hk; cases hk
    rw [Hp.setO, Hp.set_other h _ this]; exact hk
theorem Pre.sub (hp : Pre P cx ops n c0 e0 h0 val blk E H) (hn : n ≤ ops.length) : ∀ i j, i ≤ j → j ≤ n → ∀ k x, H i k = some x → H j k = some x := by
  intro i j hij
  induction j with
  | zero => intro _ k x hk; have hi0 : i = 0 := (by omega); subst hi0; exact hk
  | succ j ih =>
    intro hj k x hk
    by_cases e : i = j + 1
    · subst e; exact hk
    · have := ih (by omega) (by omega) k x hk
      obtain ⟨_, h2, h3, _⟩ := hp.step j ops[j] (by omega) (by simp [show j < ops.length by omega])
      rw [h2]
      split
      · exact this
      · exact setO_sub h3 k x this
/-- what stands in a slot behind i operations -/
theorem Pre.slot (hp : Pre P cx ops n c0 e0 h0 val blk E H) (hd : Draws ops n) (hn : n ≤ ops.length) (t : Tmp) : ∀ i, i ≤ n → (∃ j q, j < i ∧ ops[j]? = some q ∧ q.dst = some t ∧ E i t = val j) ∨ ((∀ j q, j < i → ops[j]? = some q → q.dst ≠ some t) ∧ E i t = e0 t)
  | 0, _ => .inr ⟨fun j q h => by omega, by rw [hp.e0]⟩
  | i + 1, hi => by
    have ho : ops[i]? = some ops[i] := by simp [show i < ops.length by omega]
    obtain ⟨h1, _⟩ := hp.step i ops[i] (by omega) ho
    by_cases e : ops[i].dst = some t
    · exact .inl ⟨i, ops[i], by omega, ho, e, by rw [h1, e]; simp [Env.put, Env.set_same]⟩
    · have hne : E (i + 1) t = E i t := by
        rw [h1]
        cases hq : ops[i].dst with
        | none => rfl
        | some d => exact Env.set_other _ _ (fun et => e (by rw [hq, et]))
      rcases hp.slot hd hn t i (by omega) with ⟨j, q, a1, a2, a3, a4⟩ | ⟨a1, a2⟩
      · exact .inl ⟨j, q, by omega, a2, a3, by rw [hne]; exact a4⟩
      · refine .inr ⟨fun j q hj hq => ?_, by rw [hne]; exact a2⟩
        by_cases ej : j = i
        · subst ej; rw [ho] at hq; cases hq; exact e
        · exact a1 j q (by omega) hq
/-- what holds while some of the operations have been carried out: the early stores ahead of number p, of the calm ones those that are listed -/
structure Mid (P : Program) (cx : Cx) (N : Nat) (ops : List Oper) (n c0 : Nat) (e0 : Env) (h0 : Hp) (val : Nat → V) (blk : Nat → Option Blk) (G : Nat → Hp) (L : Array Bool) (p : Nat) (a : Act) (w : World) (R : Nat → Prop) (ρ : Rho) : Prop where
  le : p ≤ n
  mids : ∀ j q, j < n → ops[j]? = some q → isMid q = true → (L.getD j false = true ↔ j < p)
  st : St P cx (G p) w R ρ
  there : ∀ k o, ρ k = some o → h0 k ≠ none ∨ ∃ j, j < n ∧ L.getD j false = true ∧ k = c0 + j ∧ blk j ≠ none
  size : a.tmps.size = N
  defers : a.defers = []
  done : ∀ j q t, j < n → L.getD j false = true → ops[j]? = some q → q.dst = some t → Rep w R ρ (val j) (a.tmps.getD t undef)
  old : ∀ t, (∀ j q, j < n → L.getD j false = true → ops[j]? = some q → q.dst ≠ some t) → Rep w R ρ (e0 t) (a.tmps.getD t undef)
/-- the heap, store by store -/
structure Mids (P : Program) (cx : Cx) (ops : List Oper) (n c0 : Nat) (e0 : Env) (h0 h1 : Hp) (Z : List Nat) (blk : Nat → Option Blk) (F : Hp) (E : Nat → Env) (H : Nat → Hp) (G : Nat → Hp) (kz : Nat → Nat) (bz : Nat → Blk) : Prop where
  start : G 0 = unhide Z h0 F (H n)
  fyes : ∀ i o, i < n → ops[i]? = some o → hidB ops o = true → F (c0 + i) = blk i
  fno : ∀ k, (∀ i o, i < n → ops[i]? = some o → hidB ops o = true → k ≠ c0 + i) → F k = none
  shown : ∀ k, k ∉ Z → h1 k = h0 k
  hidden : ∀ k, k ∈ Z → h1 k = none
  range : ∀ k, k ∈ Z → k < c0 ∨ c0 + ops.length ≤ k
  step : ∀ i o, i < n → ops[i]? = some o → (isMid o = false ∧ G (i + 1) = G i) ∨ (isMid o = true ∧ G (i + 1) = (G i).set (kz i) (some (bz i)) ∧ StoreOk P cx o (E n) (G i) (kz i) (bz i) ∧ (kz i ∈ Z ∨ ∃ j q, j < n ∧ ops[j]? = some q ∧ hidB ops q = true ∧ kz i = c0 + j ∧ waits o j = true))
theorem unhide_in {Z : List Nat} {h hf hc : Hp} {k : Nat} (hk : k ∈ Z) : unhide Z h hf hc k = h k := by
  unfold unhide
  have : Z.any (Nat.beq k) = true := List.any_eq_true.2 ⟨k, hk, Nat.beq_refl k⟩
  rw [this]
theorem unhide_out {Z : List Nat} {h hf hc : Hp} {k : Nat} (hk : k ∉ Z) : unhide Z h hf hc k = match hf k with | some b => some b | none => hc k := by
  unfold unhide
  have : Z.any (Nat.beq k) = false := by
    rw [← Bool.not_eq_true]
    intro hh
    obtain ⟨x, h1, h2⟩ := List.any_eq_true.1 hh
    exact hk (by rw [Nat.eq_of_beq_eq_true h2]; exact h1)
  simp only [this]
  cases hf k <;> rfl
section
variable {h1 F : Hp} {Z : List Nat} {G : Nat → Hp} {kz : Nat → Nat} {bz : Nat → Blk}
/-- it is made in the region, and an early store goes into it -/
def Hid (ops : List Oper) (n c0 k : Nat) : Prop := ∃ j q, j < n ∧ ops[j]? = some q ∧ hidB ops q = true ∧ k = c0 + j
theorem Mids.out (hg : Mids P cx ops n c0 e0 h0 h1 Z blk F E H G kz bz) (hn : n ≤ ops.length) {k : Nat} (hk : k ∉ Z) (hf : ¬ Hid ops n c0 k) : ∀ i, i ≤ n → G i k = H n k
  | 0, _ => by rw [hg.start, unhide_out hk, hg.fno k (fun i o h1 h2 h3 h4 => hf ⟨i, o, h1, h2, h3, h4⟩)]
  | i + 1, hi => by
    rcases hg.step i ops[i] (by omega) (by simp [show i < ops.length by omega]) with ⟨_, h⟩ | ⟨_, h, _, hz⟩
    · rw [h]; exact hg.out hn hk hf i (by omega)
    · rw [h, Hp.set_other _ _ (fun e => by
        rcases hz with hz | ⟨j, q, h1, h2, h3, h4, _⟩
        · exact hk (by rw [e]; exact hz)
        · exact hf ⟨j, q, h1, h2, h3, by rw [e]; exact h4⟩)]; exact hg.out hn hk hf i (by omega)
theorem Mids.ne (hg : Mids P cx ops n c0 e0 h0 h1 Z blk F E H G kz bz) (hn : n ≤ ops.length) {k : Nat} : ∀ i, i ≤ n → G 0 k ≠ none → G i k ≠ none
  | 0, _, h => h
  | i + 1, hi, h => by
    have ih := hg.ne hn i (by omega) h
    rcases hg.step i ops[i] (by omega) (by simp [show i < ops.length by omega]) with ⟨_, h⟩ | ⟨_, h, _, hz⟩
    · rw [h]; exact ih
    · rw [h]; exact Hp.mono_set _ _ _ k ih
theorem Mids.same (hg : Mids P cx ops n c0 e0 h0 h1 Z blk F E H G kz bz) (hn : n ≤ ops.length) : ∀ i j, i ≤ j → j ≤ n → (∀ m q, i ≤ m → m < j → ops[m]? = some q → isMid q = false) → G j = G i
  | i, 0, hij, _, _ => by have : i = 0 := (by omega); rw [this]
  | i, j + 1, hij, hj, hm => by
    by_cases e : i = j + 1
    · rw [e]
    · have ih := hg.same hn i j (by omega) (by omega) fun m q h1 h2 => hm m q h1 (by omega)
      rcases hg.step j ops[j] (by omega) (by simp [show j < ops.length by omega]) with ⟨_, h⟩ | ⟨h, _⟩
      · rw [h, ih]
      · rw [hm j ops[j] (by omega) (by omega) (by simp [show j < ops.length by omega])] at h; cases h
/-- no calm operation knows of what is hidden -/
theorem Pre.hid (hp : Pre P cx ops n c0 e0 h1 val blk E H) (hn : n ≤ ops.length) (hg : Mids P cx ops n c0 e0 h0 h1 Z blk F E H G kz bz) {k : Nat} (hk : k ∈ Z) : ∀ i, i ≤ n → H i k = none
  | 0, _ => by rw [hp.h0]; exact hg.hidden k hk
  | i + 1, hi => by
    obtain ⟨_, h2, _, _⟩ := hp.step i ops[i] (by omega) (by simp [show i < ops.length by omega])
    rw [h2]
    have ih := hp.hid hn hg hk i (by omega)
    split
    · exact ih
    cases hb : blk i with
    | none => exact ih
    | some b => rw [Hp.setO, Hp.set_other _ _ (fun e => by have := hg.range k hk; omega)]; exact ih
theorem Pre.hid' (hp : Pre P cx ops n c0 e0 h1 val blk E H) (hn : n ≤ ops.length) {j : Nat} {q : Oper} (hj : j < n) (hq : ops[j]? = some q) (hh : hidB ops q = true) : ∀ i, i ≤ n → H i (c0 + j) = none
  | 0, _ => by
    obtain ⟨_, _, h3, h4, _⟩ := hp.step j q hj hq
    have := h3 (h4 hh).2
    cases hz : H 0 (c0 + j) with
    | none => rfl
    | some b => rw [hp.sub hn 0 j (Nat.zero_le _) (by omega) _ _ hz] at this; cases this
  | i + 1, hi => by
    obtain ⟨_, h2, _, _⟩ := hp.step i ops[i] (by omega) (by simp [show i < ops.length by omega])
    rw [h2]
    have ih := hp.hid' hn hj hq hh i (by omega)
    split
    · exact ih
    · rename_i hne
      cases hb : blk i with
      | none => exact ih
      | some b =>
        rw [Hp.setO, Hp.set_other _ _ (fun e => hne (by
          have : j = i := by omega
          subst this
          have : q = ops[j] := by simpa [show j < ops.length by omega] using hq.symm
          rw [← this]; exact hh))]; exact ih
theorem Pre.hidk (hp : Pre P cx ops n c0 e0 h1 val blk E H) (hn : n ≤ ops.length) {k : Nat} (hf : Hid ops n c0 k) (i : Nat) (hi : i ≤ n) : H i k = none := by
  obtain ⟨j, q, a1, a2, a3, rfl⟩ := hf
  exact hp.hid' hn a1 a2 a3 i hi
theorem Pre.known (hp : Pre P cx ops n c0 e0 h1 val blk E H) (hn : n ≤ ops.length) (hg : Mids P cx ops n c0 e0 h0 h1 Z blk F E H G kz bz) {i p : Nat} (hi : i ≤ n) (hpn : p ≤ n) : ∀ k b, H i k = some b → G p k = some b := fun k b hb => by
  have hz : k ∉ Z := fun hz => by rw [hp.hid hn hg hz i hi] at hb; cases hb
  have hf : ¬ Hid ops n c0 k := fun hf => by rw [hp.hidk hn hf i hi] at hb; cases hb
  rw [hg.out hn hz hf p hpn]
  exact hp.sub hn i n hi (Nat.le_refl _) k b hb
theorem Mids.start_ne (hp : Pre P cx ops n c0 e0 h1 val blk E H) (hn : n ≤ ops.length) (hg : Mids P cx ops n c0 e0 h0 h1 Z blk F E H G kz bz) {k : Nat} (hk : h0 k ≠ none) : G 0 k ≠ none := by
  rw [hg.start]
  by_cases hz : k ∈ Z
  · rw [unhide_in hz]; exact hk
  · rw [unhide_out hz]
    split
    · simp
    cases hq : h0 k with
    | none => exact absurd hq hk
    | some b => rw [hp.sub hn 0 n (Nat.zero_le _) (Nat.le_refl _) k b (by rw [hp.h0, hg.shown k hz]; exact hq)]; simp
theorem Mids.made (hp : Pre P cx ops n c0 e0 h1 val blk E H) (hn : n ≤ ops.length) (hg : Mids P cx ops n c0 e0 h0 h1 Z blk F E H G kz bz) {j : Nat} {b : Blk} {q : Oper} (hj : j < n) (hq : ops[j]? = some q) (hb : blk j = some b) (hh : hidB ops q = false) {p : Nat} (hpn : p ≤ n) : G p (c0 + j) = some b := by
  obtain ⟨_, q2, _, _⟩ := hp.step j q hj hq
  exact hp.known hn hg (i := j + 1) (by omega) hpn _ b (by rw [q2, hh, hb]; simp [Hp.setO, Hp.set_same])
/-- a block into which an early store goes, while no store has gone there -/
theorem Mids.made' (hn : n ≤ ops.length) (hg : Mids P cx ops n c0 e0 h0 h1 Z blk F E H G kz bz) {j : Nat} {q : Oper} {b : Blk} (hj : j < n) (hq : ops[j]? = some q) (hb : blk j = some b) (hh : hidB ops q = true) : ∀ p, p ≤ n → (∀ i o, i < p → ops[i]? = some o → isMid o = true → waits o j = false) → G p (c0 + j) = some b
  | 0, _, _ => by
    rw [hg.start, unhide_out (fun hz => by have := hg.range _ hz; omega), hg.fyes j q hj hq hh, hb]
  | p + 1, hp, hno => by
    have ih := hg.made' hn hj hq hb hh p (by omega) fun i o h1 => hno i o (by omega)
    rcases hg.step p ops[p] (by omega) (by simp [show p < ops.length by omega]) with ⟨_, h⟩ | ⟨hm, h, _, hz⟩
    · rw [h]; exact ih
    · rw [h, Hp.set_other _ _ (fun e => by
        rcases hz with hz | ⟨j', q', h1, h2, h3, h4, h5⟩
        · have := hg.range _ hz; omega
        · have : j' = j := by omega
          subst this
          rw [hno p ops[p] (by omega) (by simp [show p < ops.length by omega]) hm] at h5; cases h5)]; exact ih
theorem Mids.made_ne (hp : Pre P cx ops n c0 e0 h1 val blk E H) (hn : n ≤ ops.length) (hg : Mids P cx ops n c0 e0 h0 h1 Z blk F E H G kz bz) {j : Nat} (hj : j < n) (hb : blk j ≠ none) {p : Nat} (hpn : p ≤ n) : G p (c0 + j) ≠ none := by
  have hq : ops[j]? = some ops[j] := by simp [show j < ops.length by omega]
  cases hbb : blk j with
  | none => exact absurd hbb hb
  | some b =>
    cases hh : hidB ops ops[j] with
    | false => rw [hg.made hp hn hj hq hbb hh hpn]; simp
    | true => exact hg.ne hn p hpn (by rw [hg.made' hn hj hq hbb hh 0 (Nat.zero_le _) (fun i o h => by omega)]; simp)
end
def cnt : List Bool → Nat
  | [] => 0
  | b :: r => (if b then 0 else 1) + cnt r
theorem cnt_set : ∀ (l : List Bool) (i : Nat), l[i]? = some false → cnt (l.set i true) + 1 = cnt l
  | [], i, h => by simp at h
  | b :: r, 0, h => by simp at h; subst h; simp [cnt]; omega
  | b :: r, i + 1, h => by have := cnt_set r i (by simpa using h); simp [cnt]; omega
theorem cnt_zero : ∀ (l : List Bool), cnt l = 0 → ∀ i : Nat, i < l.length → l[i]? = some true
  | [], _, i, h => by simp at h
  | b :: r, h, 0, _ => by cases b <;> simp_all [cnt]
  | b :: r, h, i + 1, hi => by
    have : cnt r = 0 := by simp only [cnt] at h; omega
    simpa using cnt_zero r this i (by simpa using hi)
theorem getD_of {L : Array Bool} {i : Nat} {b : Bool} (hi : i < L.size) (d : Bool) : L.getD i d = b ↔ L.toList[i]? = some b := by
  simp [Array.getD, hi]
theorem cnt_step {L : Array Bool} {i fuel : Nat} (hi : L.getD i true = false) (hc : cnt L.toList ≤ fuel + 1) : cnt (L.setIfInBounds i true).toList ≤ fuel := by
  have hlt : i < L.size := by
    rcases Nat.lt_or_ge i L.size with h | h
    · exact h
    · simp [Array.getD, Nat.not_lt.2 h] at hi
  have := cnt_set L.toList i ((getD_of hlt true).1 hi)
  simp only [Array.toList_setIfInBounds]
  omega
theorem set_getD {L : Array Bool} {i j : Nat} (hi : L.getD i true = false) : (L.setIfInBounds i true).getD j false = true ↔ j = i ∨ L.getD j false = true := by
  have hlt : i < L.size := by
    rcases Nat.lt_or_ge i L.size with h | h
    · exact h
    · simp [Array.getD, Nat.not_lt.2 h] at hi
  by_cases e : j = i
  · subst e; simp [Array.getD_eq_getD_getElem?, Array.getElem?_setIfInBounds, hlt]
  · simp only [Array.getD_eq_getD_getElem?, Array.getElem?_setIfInBounds, if_neg (fun h : i = j => e h.symm)]
    simp [e]
theorem unlisted {L : Array Bool} {i : Nat} (hi : L.getD i true = false) : L.getD i false = false := by
  rcases Nat.lt_or_ge i L.size with h | h
  · simp [Array.getD, h] at hi ⊢; exact hi
  · simp [Array.getD, Nat.not_lt.2 h]
theorem unlisted' {L : Array Bool} {i : Nat} (hs : i < L.size) (hi : L.getD i false = false) : L.getD i true = false := by
  simp [Array.getD, hs] at hi ⊢; exact hi

/-- whoever is listed, those that it waits for are listed -/
def Down (ops : List Oper) (L : Array Bool) : Prop := ∀ i o j, L.getD i false = true → ops[i]? = some o → waits o j = true → L.getD j false = true
theorem Down.reach {ops : List Oper} {L : Array Bool} (hd : Down ops L) {i j : Nat} (hr : Reach ops i j) (hp : ∀ o k, ops[i]? = some o → waits o k = true → L.getD k false = true) : L.getD j false = true := by
  induction hr with
  | one h hw => exact hp _ _ h hw
  | step h hw hr ih => exact ih fun o k ho hk => hd _ o k (hp _ _ h hw) ho hk
theorem Down.next {ops : List Oper} {L : Array Bool} (hd : Down ops L) {i : Nat} {o : Oper} (hu : L.getD i true = false) (ho : ops[i]? = some o) (hp : ∀ k, waits o k = true → L.getD k false = true) : Down ops (L.setIfInBounds i true) := fun a q j ha hq hw => by
  rcases (set_getD hu).1 ha with rfl | h
  · rw [ho] at hq; cases hq; exact (set_getD hu).2 (.inr (hp j hw))
  · exact (set_getD hu).2 (.inr (hd a q j h hq hw))
theorem waits_after {L : Array Bool} {o : Oper} (hall : ∀ e ∈ o.after, Region.binds .any e = true → L.getD e.on false = true) : ∀ k, waits o k = true → L.getD k false = true := fun k hk => by
  obtain ⟨e, h1, h2, h3⟩ := waits_spec hk
  rw [← h3]; exact hall e h1 h2
theorem any_tail (hT : TabOk P T) (hC : ∀ f args r, C f args r → Fn P f args r) (hN : ∀ o ∈ ops, ∀ t, o.dst = some t → t < N) (hd : Draws ops n) {Q : Exit → Env → Hp → Prop} : ∀ (fuel : Nat) (L : Array Bool) (k : Nat) (a : Act) (w : World) (R : Nat → Prop) (ρ : Rho) (e : Env) (h : Hp),
    Down ops L → cnt L.toList ≤ fuel → L.size = ops.length → n ≤ k → k ≤ ops.length → (∀ j, j < ops.length → (L.getD j false = true ↔ j < k)) → St P cx h w R ρ → There h ρ → EnvRep N e a w R ρ → opsK C T ops (c0 + k) (ops.drop k) e h (Q .normal) →
    wpAny P .any ops.toArray (Lift P N cx Q) fuel L a w := by
  intro fuel
  induction fuel with
  | zero =>
    intro L k a w R ρ e h hdn hc hs hnk hkl hL st th er hk
    have hall : ∀ j, j < ops.length → j < k := fun j hj => (hL j hj).1 ((getD_of (by omega) false).2 (cnt_zero _ (by omega) j (by simp; omega)))
    have hke : k = ops.length := by
      rcases Nat.lt_or_ge k ops.length with h1 | h1
      · exact absurd (hall k h1) (by omega)
      · omega
    subst hke
    refine ⟨?_, e, h, R, ρ, by simpa [opsK] using hk, st, th, er⟩
    refine List.eq_nil_iff_forall_not_mem.2 fun i hi => ?_
    obtain ⟨hu, o, ho, _⟩ := mem_ready.1 hi
    have hlt : i < ops.length := by simpa using (Array.getElem?_eq_some_iff.1 ho).1
    have := (hL i hlt).2 hlt
    rw [unlisted hu] at this
    cases this
  | succ fuel ih =>
    intro L k a w R ρ e h hdn hc hs hnk hkl hL st th er hk
    have ready : ∀ i, i ∈ Region.ready .any ops.toArray L → i = k ∧ k < ops.length := fun i hi => by
      obtain ⟨hu, o, ho, hall⟩ := mem_ready.1 hi
      have ho' : ops[i]? = some o := by simpa using ho
      have hlt : i < ops.length := (List.getElem?_eq_some_iff.1 ho').1
      have hge : k ≤ i := by
        rcases Nat.lt_or_ge i k with h1 | h1
        · have := (hL i hlt).2 h1; rw [unlisted hu] at this; cases this
        · exact h1
      rcases Nat.lt_or_ge k i with h1 | h1
      · have := hdn.reach (hd.tail i o k (by omega) ho' h1) fun q m hq hm => by rw [ho'] at hq; cases hq; exact waits_after hall m hm
        have := (hL k (by omega)).1 this
        omega
      · exact ⟨by omega, by omega⟩
    refine ⟨fun h0 => ?_, fun i hi => ?_⟩
    · have hke : k = ops.length := by
        rcases Nat.lt_or_ge k ops.length with h1 | h1
        · have hmem : k ∈ Region.ready .any ops.toArray L := mem_ready.2 ⟨unlisted' (by omega) (by rw [← Bool.not_eq_true]; intro hh; have := (hL k h1).1 hh; omega), ops[k], by simp [h1], fun ed he hb => by
            have := hd.back k ops[k] (by simp [h1]) ed he hb
            exact (hL _ (by omega)).2 this⟩
          rw [h0] at hmem; cases hmem
        · omega
      subst hke
      exact ⟨e, h, R, ρ, by simpa [opsK] using hk, st, th, er⟩
    · obtain ⟨rfl, hlt⟩ := ready i hi
      have hu := (mem_ready.1 hi).1
      have hdn' : Down ops (L.setIfInBounds i true) := by
        obtain ⟨_, o, ho, hall⟩ := mem_ready.1 hi
        exact hdn.next hu (by simpa using ho) (waits_after hall)
      have hio : ops[i]? = some ops[i] := by simp [hlt]
      have hdrop : ops.drop i = ops[i] :: ops.drop (i + 1) := List.drop_eq_getElem_cons hlt
      rw [hdrop] at hk
      have hN' := hN ops[i] (List.getElem_mem hlt)
      have hio' : ops.toArray[i]? = some ops[i] := by simp [hlt]
      unfold wpOp
      simp only [hio']
      have hLn : ∀ j, j < ops.length → ((L.setIfInBounds i true).getD j false = true ↔ j < i + 1) := fun j hj => by
        rw [set_getD hu, hL j hj]; omega
      rcases guardK_spec (opsK_cons hk) with ⟨hg, hk⟩ | ⟨hg, hk⟩
      · rw [wanted_of (w := w) (R := R) (ρ := ρ) hg (fun _ _ t _ _ _ => er.rep t), if_pos rfl]
        left
        obtain ⟨v, h', hst, hk⟩ := opK_sound (cx := cx) hT hC _ hk
        refine Out.next (hb := none) (hst.ok R ρ a w st (fun x _ => er.rd x) th) fun x w' ⟨R', ρ', s1, s2, s3, s4, s5⟩ => ?_
        exact ih _ (i + 1) _ _ R' ρ' _ h' hdn' (cnt_step hu hc) (by simp [hs]) (by omega) (by omega) hLn s1 (th.next hst.mono s3 s4) ((er.ext s2).put _ hN' s5) hk
      · rw [wanted_of (w := w) (R := R) (ρ := ρ) hg (fun _ _ t _ _ _ => er.rep t)]
        simp only [Bool.false_eq_true, if_false]
        exact ih _ (i + 1) _ _ R ρ _ h hdn' (cnt_step hu hc) (by simp [hs]) (by omega) (by omega) hLn st th (er.put _ hN' .und) hk

/-- the least number that is not listed -/
theorem least {L : Array Bool} : ∀ m : Nat, (∃ j, j < m ∧ L.getD j false = false) → ∃ i, i < m ∧ L.getD i false = false ∧ ∀ j, j < i → L.getD j false = true
  | 0, h => by obtain ⟨j, hj, _⟩ := h; omega
  | m + 1, h => by
    by_cases h1 : ∃ j, j < m ∧ L.getD j false = false
    · obtain ⟨i, a, b, c⟩ := least m h1
      exact ⟨i, by omega, b, c⟩
    · obtain ⟨j, hj, hf⟩ := h
      have : j = m := by
        rcases Nat.lt_or_ge j m with h2 | h2
        · exact absurd ⟨j, h2, hf⟩ h1
        · omega
      subst this
      exact ⟨j, by omega, hf, fun k hk => by
        cases hq : L.getD k false with
        | true => rfl
        | false => exact absurd ⟨k, hk, hq⟩ h1⟩

theorem any_mid {h1 F : Hp} {Z : List Nat} {G : Nat → Hp} {kz : Nat → Nat} {bz : Nat → Blk} (hT : TabOk P T) (hC : ∀ f args r, C f args r → Fn P f args r) (hN : ∀ o ∈ ops, ∀ t, o.dst = some t → t < N) (hd : Draws ops n) (hn : n ≤ ops.length) {Q : Exit → Env → Hp → Prop} (hp : Pre P cx ops n c0 e0 h1 val blk E H)
    (hg : Mids P cx ops n c0 e0 h0 h1 Z blk F E H G kz bz) (hk : opsK C T ops (c0 + n) (ops.drop n) (E n) (G n) (Q .normal)) :
    ∀ (fuel : Nat) (L : Array Bool) (p : Nat) (a : Act) (w : World) (R : Nat → Prop) (ρ : Rho), Down ops L → cnt L.toList ≤ fuel → L.size = ops.length → (∀ j, n ≤ j → j < ops.length → L.getD j false = false) → Mid P cx N ops n c0 e0 h0 val blk G L p a w R ρ →
    wpAny P .any ops.toArray (Lift P N cx Q) fuel L a w := by
  have full : ∀ (fuel : Nat) (L : Array Bool) (p : Nat) (a : Act) (w : World) (R : Nat → Prop) (ρ : Rho), Down ops L → cnt L.toList ≤ fuel → L.size = ops.length → (∀ j, n ≤ j → j < ops.length → L.getD j false = false) → Mid P cx N ops n c0 e0 h0 val blk G L p a w R ρ → (∀ j, j < n → L.getD j false = true) →
      wpAny P .any ops.toArray (Lift P N cx Q) fuel L a w := fun fuel L p a w R ρ hdn hc hs hL hm hall => by
    have hGp : G n = G p := hg.same hn p n hm.le (Nat.le_refl _) fun m q h1 h2 hq => by
      cases hmq : isMid q with
      | false => rfl
      | true => have := (hm.mids m q h2 hq hmq).1 (hall m h2); omega
    refine any_tail (c0 := c0) hT hC hN hd fuel L n a w R ρ (E n) (G n) hdn hc hs (Nat.le_refl _) hn (fun j hj => ⟨fun h => ?_, fun h => hall j h⟩) (by rw [hGp]; exact hm.st) (fun k o hko => ?_) ⟨hm.size, fun t => ?_, hm.defers⟩ hk
    · rcases Nat.lt_or_ge j n with h1 | h1
      · exact h1
      · rw [hL j h1 hj] at h; cases h
    · rcases hm.there k o hko with h1 | ⟨j, h1, _, rfl, h2⟩
      · exact hg.ne hn n (Nat.le_refl _) (hg.start_ne hp hn h1)
      · exact hg.made_ne hp hn h1 h2 (Nat.le_refl _)
    · rcases hp.slot hd hn t n (Nat.le_refl _) with ⟨j, q, a1, a2, a3, a4⟩ | ⟨a1, a2⟩
      · rw [a4]; exact hm.done j q t a1 (hall j a1) a2 a3
      · rw [a2]; exact hm.old t fun j q hj _ hq => a1 j q hj hq
  intro fuel
  induction fuel with
  | zero =>
    intro L p a w R ρ hdn hc hs hL hm
    exact full 0 L p a w R ρ hdn hc hs hL hm fun j hj => (getD_of (by omega) false).2 (cnt_zero _ (by omega) j (by simp; omega))
  | succ fuel ih =>
    intro L p a w R ρ hdn hc hs hL hm
    by_cases hall : ∀ j, j < n → L.getD j false = true
    · exact full _ L p a w R ρ hdn hc hs hL hm hall
    have hex : ∃ j, j < n ∧ L.getD j false = false := by
      simp only [Classical.not_forall] at hall
      obtain ⟨j, hj, hf⟩ := hall
      exact ⟨j, hj, by simpa using hf⟩
    refine ⟨fun h0' => ?_, fun i hi => ?_⟩
    · exfalso
      obtain ⟨i, h1, h2, h3⟩ := least n hex
      have hmem : i ∈ Region.ready .any ops.toArray L := mem_ready.2 ⟨unlisted' (by omega) h2, ops[i], by simp [show i < ops.length by omega], fun ed he hb => h3 _ (hd.back i ops[i] (by simp [show i < ops.length by omega]) ed he hb)⟩
      rw [h0'] at hmem; cases hmem
    · obtain ⟨hu, o, ho, hafter⟩ := mem_ready.1 hi
      have ho' : ops[i]? = some o := by simpa using ho
      have hlt : i < ops.length := (List.getElem?_eq_some_iff.1 ho').1
      have hin : i < n := by
        rcases Nat.lt_or_ge i n with h1 | h1
        · exact h1
        · exfalso
          obtain ⟨j, hj, hf⟩ := hex
          have := hdn.reach (hd.tail i o j h1 ho' (by omega)) fun q m hq hm' => by rw [ho'] at hq; cases hq; exact waits_after hafter m hm'
          rw [hf] at this
          cases this
      have hN' := hN o (List.mem_of_getElem? ho')
      have hdn' : Down ops (L.setIfInBounds i true) := hdn.next hu ho' (waits_after hafter)
      obtain ⟨q1, q2, q3, qh, q4⟩ := hp.step i o hin ho'
      have hui := unlisted hu
      -- what the operation looks at stands for what the walk says, now and at the end of the calm ones
      have slot : ∀ t, t ∈ looks ops o → ∀ m, i ≤ m → m ≤ n → Rep w R ρ (E m t) (a.tmps.getD t undef) := fun t ht m him hmn => by
        rcases hp.slot hd hn t m hmn with ⟨j, q, a1, a2, a3, a4⟩ | ⟨a1, a2⟩
        · obtain ⟨_, b2⟩ := hd.reads i o j q t hin ho' a2 a3 ht
          obtain ⟨ed, he1, he2, he3⟩ := waits_spec b2
          have := hafter ed he1 he2
          rw [he3] at this
          rw [a4]; exact hm.done j q t (by omega) this a2 a3
        · rw [a2]
          refine hm.old t fun j q hj _ hq hqt => ?_
          obtain ⟨b1, _⟩ := hd.reads i o j q t hin ho' hq hqt ht
          exact a1 j q (by omega) hq hqt
      have ops1 : ∀ m, i ≤ m → m ≤ n → ∀ x ∈ o.op.operands, Rep w R ρ ((E m).rd x) (a.eval x) := fun m him hmn x hx => by
        cases x with
        | tmp t => exact slot t (List.mem_append_left _ (List.mem_filterMap.2 ⟨.tmp t, by simpa using hx, rfl⟩)) m him hmn
        | const u => exact .const u
        | global g => exact .any
        | func f => exact Rep.fn (xs := []) rfl (by simp)
      have hgd : ∀ b, gv ops (E i) o.guard = some b → Region.wanted o (yielded ops.toArray a.tmps) = b := fun b hb =>
        wanted_of (w := w) (R := R) (ρ := ρ) hb fun j o' t hj hoj hot => slot t (List.mem_append_right _ (by
          unfold guards
          cases hgg : o.guard with
          | none => simp [hgg] at hj
          | some g => obtain ⟨g1, g2⟩ := g; simp [hgg] at hj; subst hj; simp [hoj, hot])) i (Nat.le_refl _) (by omega)
      have hLn : ∀ j, n ≤ j → j < ops.length → (L.setIfInBounds i true).getD j false = false := fun j hj hjl => by
        cases hq : (L.setIfInBounds i true).getD j false with
        | false => rfl
        | true => rcases (set_getD hu).1 hq with h1 | h1
                  · omega
                  · rw [hL j hj hjl] at h1; cases h1
      have put_other : ∀ x t, o.dst ≠ some t → ((a.put o.dst x).tmps).getD t undef = a.tmps.getD t undef := fun x t ht => by
        cases hdst : o.dst with
        | none => rfl
        | some d => rw [getD_put a t d x (by rw [hm.size]; exact hN' d hdst), if_neg (fun e => ht (by rw [hdst, e]))]
      have put_same : ∀ x t, o.dst = some t → ((a.put o.dst x).tmps).getD t undef = x := fun x t ht => by
        rw [ht, getD_put a t t x (by rw [hm.size]; exact hN' t ht), if_pos rfl]
      -- the state behind it
      have next : ∀ (p' : Nat) (x : Value) (w' : World) (R' : Nat → Prop) (ρ' : Rho), p' ≤ n → (∀ j q, j < n → ops[j]? = some q → isMid q = true → ((L.setIfInBounds i true).getD j false = true ↔ j < p')) → St P cx (G p') w' R' ρ' → Ext w R ρ w' R' ρ' → (∀ k, k ≠ c0 + i → ρ' k = ρ k) → (blk i = none → ρ' = ρ) → (∀ t, o.dst = some t → Rep w' R' ρ' (val i) x) →
          Mid P cx N ops n c0 e0 h0 val blk G (L.setIfInBounds i true) p' (a.put o.dst x) w' R' ρ' := fun p' x w' R' ρ' hp' hmids s1 s2 s3 s4 s5 => by
        refine ⟨hp', hmids, s1, fun k o' hk' => ?_, ?_, ?_, fun j q t hj hl hq hqt => ?_, fun t ht => ?_⟩
        · by_cases ek : k = c0 + i
          · cases hb : blk i with
            | none =>
              rw [s4 hb] at hk'
              rcases hm.there k o' hk' with h1 | ⟨j, h1, h2, h3, h4⟩
              · exact .inl h1
              · exact .inr ⟨j, h1, (set_getD hu).2 (.inr h2), h3, h4⟩
            | some b => exact .inr ⟨i, hin, (set_getD hu).2 (.inl rfl), ek, by rw [hb]; simp⟩
          · rw [s3 k ek] at hk'
            rcases hm.there k o' hk' with h1 | ⟨j, h1, h2, h3, h4⟩
            · exact .inl h1
            · exact .inr ⟨j, h1, (set_getD hu).2 (.inr h2), h3, h4⟩
        · cases o.dst <;> simp [Act.put, hm.size]
        · cases o.dst <;> simp [Act.put, hm.defers]
        · by_cases ej : j = i
          · subst ej
            rw [ho'] at hq; cases hq
            rw [put_same x t hqt]; exact s5 t hqt
          · have hl' : L.getD j false = true := by rcases (set_getD hu).1 hl with h1 | h1; exact absurd h1 ej; exact h1
            rw [put_other x t (fun hot => ej (hd.once j q i o t hj hin hq ho' hqt hot))]
            exact (hm.done j q t hj hl' hq hqt).ext s2
        · have hno : o.dst ≠ some t := ht i o hin ((set_getD hu).2 (.inl rfl)) ho'
          rw [put_other x t hno]
          exact (hm.old t fun j q hj hl hq => ht j q hj ((set_getD hu).2 (.inr hl)) hq).ext s2
      unfold wpOp
      simp only [ho]
      rcases q4 with ⟨hmid, hb⟩ | ⟨hmid, q4⟩
      · -- an early store: those ahead of it have been carried out
        obtain ⟨hdst, hgn, t, y, hop⟩ := isMid_spec hmid
        have hpi : G i = G p ∧ p ≤ i := by
          have hle : p ≤ i := by
            rcases Nat.lt_or_ge i p with h1 | h1
            · have := (hm.mids i o hin ho' hmid).2 h1; rw [hui] at this; cases this
            · exact h1
          refine ⟨hg.same hn p i hle (by omega) fun m q m1 m2 hq => ?_, hle⟩
          cases hmq : isMid q with
          | false => rfl
          | true =>
            obtain ⟨ed, he1, he2, he3⟩ := waits_spec (hd.chain i o m q hin ho' hq hmid hmq m2)
            have := hafter ed he1 he2
            rw [he3] at this
            have := (hm.mids m q (by omega) hq hmq).1 this
            omega
        rcases hg.step i o hin ho' with ⟨hf, _⟩ | ⟨_, g2, g3, g4⟩
        · rw [hmid] at hf; cases hf
        have hw : Region.wanted o (yielded ops.toArray a.tmps) = true := by unfold Region.wanted; rw [hgn]
        rw [hw, if_pos rfl]
        left
        refine Out.next (hb := none) (g3 R ρ a w (hpi.1 ▸ hm.st) (ops1 n (by omega) (Nat.le_refl _))) fun x w' ⟨hx, s1, s2⟩ => ?_
        refine ih _ (i + 1) _ _ R ρ hdn' (cnt_step hu hc) (by simp [hs]) hLn (next (i + 1) x w' R ρ (by omega) (fun j q hj hq hmq => ?_) (by rw [g2]; exact s1) s2 (fun _ _ => rfl) (fun _ => rfl) (fun t ht => by rw [hdst] at ht; cases ht))
        rw [set_getD hu, hm.mids j q hj hq hmq]
        refine ⟨fun h => by rcases h with h | h <;> omega, fun h => ?_⟩
        by_cases ej : j = i
        · exact .inl ej
        · right
          obtain ⟨ed, he1, he2, he3⟩ := waits_spec (hd.chain i o j q hin ho' hq hmid hmq (by omega))
          have := hafter ed he1 he2
          rw [he3] at this
          exact (hm.mids j q hj hq hmq).1 this
      · have hmids' : ∀ j q, j < n → ops[j]? = some q → isMid q = true → ((L.setIfInBounds i true).getD j false = true ↔ j < p) := fun j q hj hq hmq => by
          rw [set_getD hu, hm.mids j q hj hq hmq]
          refine ⟨fun h => ?_, .inr⟩
          rcases h with h | h
          · subst h; rw [ho'] at hq; cases hq; rw [hmid] at hmq; cases hmq
          · exact h
        rcases q4 with ⟨hg', hok⟩ | ⟨hg', hv, hb⟩
        · rw [hgd true hg', if_pos rfl]
          left
          have hfree : blk i ≠ none → ρ (c0 + i) = none := fun hb => by
            cases hq : ρ (c0 + i) with
            | none => rfl
            | some o' =>
              exfalso
              have hz : c0 + i ∉ Z := fun hz => by have := hg.range _ hz; omega
              rcases hm.there _ o' hq with h1 | ⟨j, h1, h2, h3, _⟩
              · cases hzz : h0 (c0 + i) with
                | none => exact h1 hzz
                | some b => have := hp.sub hn 0 i (Nat.zero_le _) (by omega) (c0 + i) b (by rw [hp.h0, hg.shown _ hz]; exact hzz); rw [q3 hb] at this; cases this
              · have : j = i := by omega
                subst this; rw [hui] at h2; cases h2
          refine Out.next (hb := none) (hok R ρ a w (hm.st.less (hp.known hn hg (by omega) hm.le)) (ops1 i (Nat.le_refl _) (by omega)) hfree) fun x w' hx => ?_
          have hout := CalmOut.out2 (h := G p) hm.st hx
          have hHH : (G p).setO (c0 + i) (blk i) = G p := by
            cases hz : blk i with
            | none => rfl
            | some b' =>
              funext k
              by_cases ek : k = c0 + i
              · subst ek
                rw [Hp.setO, Hp.set_same]
                cases hh : hidB ops o with
                | false => rw [hg.made hp hn hin ho' hz hh hm.le]
                | true =>
                  rw [hg.made' hn hin ho' hz hh p hm.le fun m q h1 h2 h3 => by
                    cases hw : waits q i with
                    | false => rfl
                    | true =>
                      have := hdn m q i ((hm.mids m q (by have := hm.le; omega) h2 h3).2 h1) h2 hw
                      rw [hui] at this; cases this]
              · rw [Hp.setO, Hp.set_other _ _ ek]
          rw [hHH] at hout
          obtain ⟨R', ρ', s1, s2, s3, s4, s5⟩ := hout
          exact ih _ p _ _ R' ρ' hdn' (cnt_step hu hc) (by simp [hs]) hLn (next p x w' R' ρ' hm.le hmids' s1 s2 s3 s4 fun _ _ => s5)
        · rw [hgd false hg']
          simp only [Bool.false_eq_true, if_false]
          exact ih _ p _ _ R ρ hdn' (cnt_step hu hc) (by simp [hs]) hLn (next p undef w R ρ hm.le hmids' hm.st (Ext.refl _ _ _) (fun _ _ => rfl) (fun _ => rfl) (fun _ _ => by rw [hv]; exact .und))
theorem St.ghost {h h' : Hp} {w : World} {R : Nat → Prop} {ρ : Rho} (hs : St P cx h w R ρ) (hl : ∀ k b, h' k = some b → h k = some b ∨ ρ k = none) : St P cx h' w R ρ :=
  have l : ∀ k o, ρ k = some o → Live h' k → Live h k := fun k o hk ⟨b, hb, hd⟩ => by
    rcases hl k b hb with h1 | h1
    · exact ⟨b, h1, hd⟩
    · rw [h1] at hk; cases hk
  ⟨hs.keeps, fun k o b hk hb => (by
    rcases hl k b hb with h1 | h1
    · exact hs.brep k o b hk h1
    · rw [h1] at hk; cases hk), fun k k' o o' n hne a b hk hk' => hs.apart k k' o o' n hne (l k o hk a) (l k' o' hk' b) hk hk', fun k o n a hk => hs.mine k o n (l k o hk a) hk, hs.rlt, hs.rold⟩
theorem region_draw (hm : P.follows .mixedOrders = true) (hT : TabOk P T) (hC : ∀ f args r, C f args r → Fn P f args r) {id : Nat} {ops : List Oper} (hN : ∀ o ∈ ops, ∀ t, o.dst = some t → t < N) (hd : drawB ops (tailN 0 ops) = true) {Q : Exit → Env → Hp → Prop} {e : Env} {h : Hp} {a : Act} {w : World} {R : Nat → Prop} {ρ : Rho}
    (hs : St P cx h w R ρ) (ht : There h ρ) (he : EnvRep N e a w R ρ) (hk : drawK C T ops c0 e h (Q .normal)) : (Code.region id ops.toArray true).wp P (Lift P N cx Q) a w := by
  have hn : tailN 0 ops ≤ ops.length := by have := (tailN_le ops 0).2; omega
  generalize hnn : tailN 0 ops = n at *
  have hdd := draws_of hd
  unfold drawK at hk
  obtain ⟨h1, Z, hk, z1, z2, z3, z4⟩ := hide_of ops 0 h rfl hnn hk
  obtain ⟨val, blk, E, H, F, p1, p2, p3, ⟨f1, f2⟩, hk⟩ := pre_of (cx := cx) hT hC hdd ops 0 e h1 _ rfl hnn hk
  have hp : Pre P cx ops n c0 e h1 val blk E H := ⟨p1, p2, fun i o hi ho => p3 i o (Nat.zero_le _) hi ho⟩
  obtain ⟨G, kz, bz, g1, g2, hk⟩ := mid_of (cx := cx) hT hC ops 0 _ rfl hnn hk
  have hk' := tail_of ops 0 rfl hnn hk
  have hg : Mids P cx ops n c0 e h h1 Z blk F E H G kz bz := by
    refine ⟨g1, fun i o h1 h2 h3 => f1 i o (Nat.zero_le _) h1 h2 h3, fun k hk => f2 k fun i o _ h1 h2 h3 => hk i o h1 h2 h3, z1, z2, z3, fun i o hi ho => ?_⟩
    rcases g2 i o (Nat.zero_le _) hi ho with h2 | ⟨h2, h3, h4, h5⟩
    · exact .inl h2
    · refine .inr ⟨h2, h3, h4, ?_⟩
      obtain ⟨_, _, tt, yy, hop⟩ := isMid_spec h2
      have hlook : midSlot o ∈ looks ops o := List.mem_append_left _ (List.mem_filterMap.2 ⟨.tmp (midSlot o), by rw [hop]; simp [Op.operands], rfl⟩)
      rcases hp.slot hdd hn (midSlot o) n (Nat.le_refl _) with ⟨j, q, a1, a2, a3, a4⟩ | ⟨a1, a2⟩
      · right
        have hh := hdd.slot i o j q hi ho h2 a2 a3
        obtain ⟨_, b2⟩ := hdd.reads i o j q _ hi ho a2 a3 hlook
        obtain ⟨_, _, _, hv, _⟩ := hp.step j q a1 a2
        refine ⟨j, q, a1, a2, hh, ?_, b2⟩
        rw [a4, (hv hh).1] at h5
        rcases h5 with ⟨off', h5⟩ | ⟨E', j, off', h5⟩
        · injection h5 with h6 h7; exact h6.symm
        · cases h5
      · left
        rcases z4 i o (Nat.zero_le _) hi ho h2 with y0 | ⟨k, off, y1, y2⟩
        · exfalso
          obtain ⟨q, hq, hqt⟩ := List.any_eq_true.1 y0
          obtain ⟨j, hj⟩ := List.getElem?_of_mem hq
          have hd1 : q.dst = some (midSlot o) := by
            split at hqt
            · rename_i d hd; rw [hd, Nat.eq_of_beq_eq_true hqt]
            · cases hqt
          obtain ⟨b1, _⟩ := hdd.reads i o j q _ hi ho hj hd1 hlook
          exact a1 j q (by omega) hj hd1
        · rw [a2, y1] at h5
          rcases h5 with ⟨off', h5⟩ | ⟨E', j, off', h5⟩
          · cases h5; exact y2
          · cases h5
  obtain ⟨s1, s2⟩ := hs.drew
  have he' := he.ext s2
  have cnt_rep : ∀ m, cnt (List.replicate m false) = m := fun m => by
    induction m with
    | zero => rfl
    | succ m ih => simp [List.replicate_succ, cnt, ih]; omega
  refine wp_region_any hm (any_mid hT hC hN hdd hn hp hg hk' _ _ 0 a _ R ρ (fun i o j h => by simp [Array.getD] at h) (by simp [cnt_rep]) (by simp) (fun j _ hj => by simp [Array.getD, hj]) ?_)
  refine ⟨Nat.zero_le _, fun j q hj hq hmq => ⟨fun h => by simp [Array.getD] at h, fun h => by omega⟩, ?_, fun k o hk => .inl (ht k o hk), he'.size, he'.defers, fun j q t hj hl => ?_, fun t _ => he'.rep t⟩
  · refine s1.ghost fun k b hb => ?_
    cases hq : h k with
    | none => exact .inr (ht.free hq)
    | some b' =>
      left
      by_cases hz : k ∈ Z
      · rw [hg.start, unhide_in hz, hq] at hb; exact hb
      · rw [hg.start, unhide_out hz] at hb
        have h0k : H 0 k = some b' := by rw [hp.h0, z1 k hz]; exact hq
        rw [hg.fno k (fun i o a1 a2 a3 a4 => by
          have := hp.hidk hn ⟨i, o, a1, a2, a3, a4⟩ 0 (Nat.zero_le _)
          rw [h0k] at this; cases this)] at hb
        have := hp.sub hn 0 n (Nat.zero_le _) (Nat.le_refl _) k b' h0k
        rw [← this]; exact hb
  · simp [Array.getD] at hl
end
end Go.Proofs.Ythcbffejjkmmfaa
