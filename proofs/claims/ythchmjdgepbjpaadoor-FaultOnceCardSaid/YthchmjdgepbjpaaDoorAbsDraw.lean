/-
  A region that draws its order: what AbsDef's walk says of it in the text's order it does in every order that its edges allow, if of any two operations that touch the same slot or the same block one waits for the other. No conditions but closed tests over the region.
-/
import Derived.Test.YthchmjdgepbjpaaDoorAbsReg
namespace Go.Proofs.YthchmjdgepbjpaaDoor
open Go.RowKit
set_option linter.unusedSimpArgs false
set_option linter.unusedVariables false

def guards (ops : List Oper) (o : Oper) : List Tmp :=
  match o.guard with
  | some (g, _) => match ops[g]? with | some q => q.dst.toList | none => []
  | none => []
def looks (ops : List Oper) (o : Oper) : List Tmp := (o.op.operands.toList.filterMap fun | .tmp t => some t | _ => none) ++ guards ops o
/-- operation i waits, step by step, for j -/
inductive Reach (ops : List Oper) : Nat → Nat → Prop
  | one {i j : Nat} {o : Oper} (h : ops[i]? = some o) (hw : waits o j = true) : Reach ops i j
  | step {i k j : Nat} {o : Oper} (h : ops[i]? = some o) (hw : waits o k = true) (hr : Reach ops k j) : Reach ops i j
theorem maskOf_spec {acc : List Nat} {o : Oper} {j : Nat} (h : (maskOf acc o).testBit j = true) : waits o j = true ∨ ∃ k, waits o k = true ∧ (acc.getD k 0).testBit j = true := by
  unfold maskOf at h
  have key : ∀ (l : List Edge) (s : Nat), (l.foldl (fun s e => match Region.binds .any e with | true => s ||| (2 ^ e.on ||| acc.getD e.on 0) | false => s) s).testBit j = true → s.testBit j = true ∨ ∃ e ∈ l, Region.binds .any e = true ∧ (e.on = j ∨ (acc.getD e.on 0).testBit j = true) := by
    intro l
    induction l with
    | nil => intro s hs; exact .inl hs
    | cons e l ih =>
      intro s hs
      simp only [List.foldl_cons] at hs
      rcases ih _ hs with h1 | ⟨e', he', h1⟩
      · cases hb : Region.binds .any e with
        | false => simp only [hb] at h1; exact .inl h1
        | true =>
          simp only [hb, Nat.testBit_or, Bool.or_eq_true, Nat.testBit_two_pow, decide_eq_true_eq] at h1
          rcases h1 with h1 | h1 | h1
          · exact .inl h1
          · exact .inr ⟨e, List.mem_cons_self, hb, .inl h1⟩
          · exact .inr ⟨e, List.mem_cons_self, hb, .inr h1⟩
      · exact .inr ⟨e', List.mem_cons_of_mem _ he', h1⟩
  rcases key _ _ h with h1 | ⟨e, he, hb, h1⟩
  · simp at h1
  · have hw : waits o e.on = true := List.any_eq_true.2 ⟨e, he, by rw [hb, Nat.beq_refl]; rfl⟩
    rcases h1 with rfl | h1
    · exact .inl hw
    · exact .inr ⟨_, hw, h1⟩
theorem masks_spec {ops : List Oper} : ∀ (l : List Oper) (acc : List Nat), ops.drop acc.length = l → (∀ i j, i < acc.length → (acc.getD i 0).testBit j = true → Reach ops i j) → ∀ i j, ((masks l acc).getD i 0).testBit j = true → Reach ops i j
  | [], acc, hd, hacc, i, j, h => by
    simp only [masks] at h
    rcases Nat.lt_or_ge i acc.length with h1 | h1
    · exact hacc i j h1 h
    · rw [List.getD_eq_getElem?_getD, List.getElem?_eq_none h1] at h; simp at h
  | o :: r, acc, hd, hacc, i, j, h => by
    have ho : ops[acc.length]? = some o := by
      have := congrArg (fun l => l[0]?) hd
      simpa [List.getElem?_drop] using this
    refine masks_spec r (acc ++ [maskOf acc o]) (by rw [List.length_append, List.length_singleton, ← List.drop_drop, hd]; rfl) (fun i j hi hb => ?_) i j h
    rw [List.length_append, List.length_singleton] at hi
    rcases Nat.lt_or_ge i acc.length with h1 | h1
    · rw [List.getD_eq_getElem?_getD, List.getElem?_append_left h1, ← List.getD_eq_getElem?_getD] at hb
      exact hacc i j h1 hb
    · have hi' : i = acc.length := by omega
      subst hi'
      rw [List.getD_eq_getElem?_getD, List.getElem?_append_right (Nat.le_refl _), Nat.sub_self] at hb
      simp only [List.getElem?_cons_zero, Option.getD_some] at hb
      rcases maskOf_spec hb with h2 | ⟨k, h2, h3⟩
      · exact .one ho h2
      · have hk : k < acc.length := by
          rcases Nat.lt_or_ge k acc.length with h4 | h4
          · exact h4
          · rw [List.getD_eq_getElem?_getD, List.getElem?_eq_none h4] at h3; simp at h3
        exact .step ho h2 (hacc k j hk h3)
/-- the test: n operations that are calm, or stores that wait for the stores ahead; each slot written once, each read behind its write; then a tail in the text's order -/
theorem waits_spec {o : Oper} {j : Nat} (h : waits o j = true) : ∃ e ∈ o.after, Region.binds .any e = true ∧ e.on = j := by
  unfold waits at h
  obtain ⟨e, he, hb⟩ := List.any_eq_true.1 h
  simp only [Bool.and_eq_true] at hb
  exact ⟨e, by simpa using he, hb.1, Nat.eq_of_beq_eq_true hb.2⟩

/-- do two operations touch the same slot? -/
def slotC (ops : List Oper) (o q : Oper) : Bool :=
  (match q.dst with | some t => (looks ops o).contains t | none => false) || (match o.dst with | some t => (looks ops q).contains t | none => false) || (match o.dst with | some t => (match q.dst with | some u => Nat.beq t u | none => false) | none => false)
def slotB (ops : List Oper) : Bool :=
  (List.range ops.length).all fun i => match ops[i]? with
    | none => true
    | some o => (o.after.toList.all fun e => !Region.binds .any e || Nat.blt e.on i) && (List.range i).all fun j => match ops[j]? with
      | none => true
      | some q => !(slotC ops o q) || ((masks ops []).getD i 0).testBit j
structure Slots (ops : List Oper) : Prop where
  back : ∀ i o, ops[i]? = some o → ∀ e ∈ o.after, Region.binds .any e = true → e.on < i
  slot : ∀ i o j q, ops[i]? = some o → ops[j]? = some q → j < i → slotC ops o q = true → Reach ops i j
theorem mask_reach {ops : List Oper} {i j : Nat} (h : ((masks ops []).getD i 0).testBit j = true) : Reach ops i j :=
  masks_spec ops [] rfl (fun i j hi => by simp at hi) i j h
theorem slots_of {ops : List Oper} (h : slotB ops = true) : Slots ops := by
  have key : ∀ i o, ops[i]? = some o → _ := fun i o hi => by
    have := List.all_eq_true.1 h i (List.mem_range.2 (List.getElem?_eq_some_iff.1 hi).1)
    simp only [hi, Bool.and_eq_true] at this
    exact this
  refine ⟨fun i o hi e he hb => ?_, fun i o j q hi hj hlt hc => ?_⟩
  · have := List.all_eq_true.1 (key i o hi).1 e (by simpa using he)
    simp only [hb, Bool.not_true, Bool.false_or] at this
    simpa [Nat.blt_eq] using this
  · have := List.all_eq_true.1 (key i o hi).2 j (List.mem_range.2 hlt)
    simp only [hj, hc, Bool.not_true, Bool.false_or] at this
    exact mask_reach this
theorem slotC_r {ops : List Oper} {o q : Oper} {t : Tmp} (hd : q.dst = some t) (hl : t ∈ looks ops o) : slotC ops o q = true := by
  unfold slotC; rw [hd]; simp [hl]
theorem slotC_w {ops : List Oper} {o q : Oper} {t : Tmp} (hd : o.dst = some t) (hl : t ∈ looks ops q) : slotC ops o q = true := by
  unfold slotC; rw [hd]; simp [hl]
theorem slotC_d {ops : List Oper} {o q : Oper} {t : Tmp} (hd : o.dst = some t) (hq : q.dst = some t) : slotC ops o q = true := by
  unfold slotC; rw [hd, hq]; simp

def cnt : List Bool → Nat
  | [] => 0
  | b :: r => (if b then 0 else 1) + cnt r
theorem cnt_set : ∀ (l : List Bool) (i : Nat), l[i]? = some false → cnt (l.set i true) + 1 = cnt l
  | [], i, h => by simp at h
  | b :: r, 0, h => by simp at h; subst h; simp [cnt]; omega
  | b :: r, i + 1, h => by have := cnt_set r i (by simpa using h); simp [cnt]; omega
theorem cnt_zero : ∀ (l : List Bool), cnt l = 0 → ∀ i : Nat, i < l.length → l[i]? = some true
  | [], _, i, h => by simp at h
  | b :: r, h, 0, _ => by cases b <;> simp_all [cnt]
  | b :: r, h, i + 1, hi => by
    have : cnt r = 0 := by simp only [cnt] at h; omega
    simpa using cnt_zero r this i (by simpa using hi)
theorem getD_of {L : Array Bool} {i : Nat} {b : Bool} (hi : i < L.size) (d : Bool) : L.getD i d = b ↔ L.toList[i]? = some b := by
  simp [Array.getD, hi]
theorem cnt_step {L : Array Bool} {i fuel : Nat} (hi : L.getD i true = false) (hc : cnt L.toList ≤ fuel + 1) : cnt (L.setIfInBounds i true).toList ≤ fuel := by
  have hlt : i < L.size := by
    rcases Nat.lt_or_ge i L.size with h | h
    · exact h
    · simp [Array.getD, Nat.not_lt.2 h] at hi
  have := cnt_set L.toList i ((getD_of hlt true).1 hi)
  simp only [Array.toList_setIfInBounds]
  omega
theorem set_getD {L : Array Bool} {i j : Nat} (hi : L.getD i true = false) : (L.setIfInBounds i true).getD j false = true ↔ j = i ∨ L.getD j false = true := by
  have hlt : i < L.size := by
    rcases Nat.lt_or_ge i L.size with h | h
    · exact h
    · simp [Array.getD, Nat.not_lt.2 h] at hi
  by_cases e : j = i
  · subst e; simp [Array.getD_eq_getD_getElem?, Array.getElem?_setIfInBounds, hlt]
  · simp only [Array.getD_eq_getD_getElem?, Array.getElem?_setIfInBounds, if_neg (fun h : i = j => e h.symm)]
    simp [e]
theorem unlisted {L : Array Bool} {i : Nat} (hi : L.getD i true = false) : L.getD i false = false := by
  rcases Nat.lt_or_ge i L.size with h | h
  · simp [Array.getD, h] at hi ⊢; exact hi
  · simp [Array.getD, Nat.not_lt.2 h]
theorem unlisted' {L : Array Bool} {i : Nat} (hs : i < L.size) (hi : L.getD i false = false) : L.getD i true = false := by
  simp [Array.getD, hs] at hi ⊢; exact hi

/-- whoever is listed, those that it waits for are listed -/
def Down (ops : List Oper) (L : Array Bool) : Prop := ∀ i o j, L.getD i false = true → ops[i]? = some o → waits o j = true → L.getD j false = true
theorem Down.reach {ops : List Oper} {L : Array Bool} (hd : Down ops L) {i j : Nat} (hr : Reach ops i j) (hp : ∀ o k, ops[i]? = some o → waits o k = true → L.getD k false = true) : L.getD j false = true := by
  induction hr with
  | one h hw => exact hp _ _ h hw
  | step h hw hr ih => exact ih fun o k ho hk => hd _ o k (hp _ _ h hw) ho hk
theorem Down.next {ops : List Oper} {L : Array Bool} (hd : Down ops L) {i : Nat} {o : Oper} (hu : L.getD i true = false) (ho : ops[i]? = some o) (hp : ∀ k, waits o k = true → L.getD k false = true) : Down ops (L.setIfInBounds i true) := fun a q j ha hq hw => by
  rcases (set_getD hu).1 ha with rfl | h
  · rw [ho] at hq; cases hq; exact (set_getD hu).2 (.inr (hp j hw))
  · exact (set_getD hu).2 (.inr (hd a q j h hq hw))
theorem waits_after {L : Array Bool} {o : Oper} (hall : ∀ e ∈ o.after, Region.binds .any e = true → L.getD e.on false = true) : ∀ k, waits o k = true → L.getD k false = true := fun k hk => by
  obtain ⟨e, h1, h2, h3⟩ := waits_spec hk
  rw [← h3]; exact hall e h1 h2

section
variable {P : Program} {cx : Cx} {T : Tab} {C : Cons} {N : Nat} {an : Rho}
/-- the text's order: what each operation yields, looks at, writes -/
structure Run [Inhabited TabT] (P : Program) (cx : Cx) (ops : List Oper) (val : Nat → V) (rd : Nat → List Nat) (wr : Nat → List (Nat × Blk)) (E : Nat → Env) (H : Nat → Hp) : Prop where
  step : ∀ i o, ops[i]? = some o → E (i + 1) = (E i).put o.dst (val i) ∧ H (i + 1) = (H i).sets (wr i) ∧
    ((gv ops (E i) o.guard = some true ∧ Does P cx o (E i) (H i) (val i) (rd i) (wr i)) ∨ (gv ops (E i) o.guard = some false ∧ val i = .und ∧ wr i = []))
/-- the records, the last one first -/
def recs (rd : Nat → List Nat) (wr : Nat → List (Nat × Blk)) : Nat → List (List Nat × List Nat)
  | 0 => []
  | n + 1 => (rd n, keysOf (wr n)) :: recs rd wr n
theorem recs_len (rd : Nat → List Nat) (wr : Nat → List (Nat × Blk)) : ∀ n, (recs rd wr n).length = n
  | 0 => rfl
  | n + 1 => by simp [recs, recs_len rd wr n]
theorem recs_congr {rd rd' : Nat → List Nat} {wr wr' : Nat → List (Nat × Blk)} : ∀ n, (∀ i, i < n → rd i = rd' i ∧ wr i = wr' i) → recs rd wr n = recs rd' wr' n
  | 0, _ => rfl
  | n + 1, h => by
    simp only [recs]
    rw [(h n (by omega)).1, (h n (by omega)).2, recs_congr n fun i hi => h i (by omega)]
def RunFrom [Inhabited TabT] (P : Program) (cx : Cx) (ops : List Oper) (K : Env → Hp → List (List Nat × List Nat) → Prop) (m : Nat) (e : Env) (h : Hp) (rd0 : Nat → List Nat) (wr0 : Nat → List (Nat × Blk)) : Prop :=
  ∃ (val : Nat → V) (rd : Nat → List Nat) (wr : Nat → List (Nat × Blk)) (E : Nat → Env) (H : Nat → Hp), E m = e ∧ H m = h ∧ (∀ i, i < m → rd i = rd0 i ∧ wr i = wr0 i) ∧ (∀ i o, m ≤ i → ops[i]? = some o → E (i + 1) = (E i).put o.dst (val i) ∧ H (i + 1) = (H i).sets (wr i) ∧
      ((gv ops (E i) o.guard = some true ∧ Does P cx o (E i) (H i) (val i) (rd i) (wr i)) ∨ (gv ops (E i) o.guard = some false ∧ val i = .und ∧ wr i = []))) ∧ K (E ops.length) (H ops.length) (recs rd wr ops.length)
theorem run_of [Inhabited TabT] (hT : TabOk P T) (hC : ConsOk P C) {ops : List Oper} {c0 : Nat} {K : Env → Hp → List (List Nat × List Nat) → Prop} : ∀ (l : List Oper) (m : Nat) (e : Env) (h : Hp) (rc : List (List Nat × List Nat)) (rd0 : Nat → List Nat) (wr0 : Nat → List (Nat × Blk)), m ≤ ops.length → ops.drop m = l → rc = recs rd0 wr0 m → opsK C T ops (c0 + m) l e h rc K →
    RunFrom P cx ops K m e h rd0 wr0
  | [], m, e, h, rc, rd0, wr0, hml, hd, hrc, hk => by
    have hm : ops.length ≤ m := by simpa using hd
    have hme : m = ops.length := by omega
    subst hme
    refine ⟨fun _ => .und, rd0, wr0, fun _ => e, fun _ => h, rfl, rfl, fun _ _ => ⟨rfl, rfl⟩, fun i o hi ho => ?_, by rw [← hrc]; exact hk⟩
    have := (List.getElem?_eq_some_iff.1 ho).1
    omega
  | o :: r, m, e, h, rc, rd0, wr0, hml, hd, hrc, hk => by
    have ho : ops[m]? = some o := by
      have := congrArg (fun l => l[0]?) hd
      simpa [List.getElem?_drop] using this
    have hd' : ops.drop (m + 1) = r := by rw [← List.drop_drop, hd]; rfl
    have build : ∀ (v : V) (rs : List Nat) (ws : List (Nat × Blk)), ((gv ops e o.guard = some true ∧ Does P cx o e h v rs ws) ∨ (gv ops e o.guard = some false ∧ v = .und ∧ ws = [])) → opsK C T ops (c0 + m + 1) r (e.put o.dst v) (h.sets ws) ((rs, keysOf ws) :: rc) K → RunFrom P cx ops K m e h rd0 wr0 := fun v rs ws hg hk => by
      have hrc' : ((rs, keysOf ws) :: rc) = recs (fun i => if i = m then rs else rd0 i) (fun i => if i = m then ws else wr0 i) (m + 1) := by
        simp only [recs, if_true]
        rw [hrc]
        congr 1
        exact recs_congr m fun i hi => by simp [show i ≠ m by omega]
      obtain ⟨val, rd, wr, E, H, h1, h2, h3, h4, h5⟩ := run_of hT hC r (m + 1) _ _ _ (fun i => if i = m then rs else rd0 i) (fun i => if i = m then ws else wr0 i) (by have := (List.getElem?_eq_some_iff.1 ho).1; omega) hd' hrc' (by rw [Nat.add_assoc] at hk; exact hk)
      refine ⟨fun i => if i = m then v else val i, rd, wr, fun i => if i ≤ m then e else E i, fun i => if i ≤ m then h else H i, by simp, by simp, fun i hi => by
        have := h3 i (by omega); simpa [show i ≠ m by omega] using this, fun i o' hi ho' => ?_, ?_⟩
      · by_cases him : i = m
        · subst him
          rw [ho] at ho'; cases ho'
          have := h3 i (by omega)
          simp only [if_true] at this
          refine ⟨by dsimp only; rw [if_neg (by omega), if_pos (Nat.le_refl _), if_pos rfl]; exact h1, by dsimp only; rw [if_neg (by omega), if_pos (Nat.le_refl _), this.2]; exact h2, ?_⟩
          dsimp only
          rw [if_pos (Nat.le_refl _), if_pos (Nat.le_refl _), if_pos rfl, this.1, this.2]
          exact hg
        · have := h4 i o' (by omega) ho'
          simpa [show ¬ i ≤ m by omega, show ¬ i + 1 ≤ m by omega, him] using this
      · have hlt := (List.getElem?_eq_some_iff.1 ho).1
        simpa [show ¬ ops.length ≤ m by omega] using h5
    rcases guardK_spec (opsK_cons hk) with ⟨hg, hk⟩ | ⟨hg, hk⟩
    · obtain ⟨v, rs, ws, hk, hst⟩ := opF_sound (cx := cx) hT hC o hk
      exact build v rs ws (.inl ⟨hg, hst⟩) hk
    · exact build .und [] [] (.inr ⟨hg, rfl, rfl⟩) hk

/-! ### what has been carried out so far: L -/
variable {ops : List Oper} {val : Nat → V} {rd : Nat → List Nat} {wr : Nat → List (Nat × Blk)} {E : Nat → Env} {H : Nat → Hp}
def atE (ops : List Oper) (val : Nat → V) (e0 : Env) (L : Nat → Bool) : Nat → Env
  | 0 => e0
  | n + 1 => match L n with
    | true => match ops[n]? with | some o => (atE ops val e0 L n).put o.dst (val n) | none => atE ops val e0 L n
    | false => atE ops val e0 L n
def atH (wr : Nat → List (Nat × Blk)) (h0 : Hp) (L : Nat → Bool) : Nat → Hp
  | 0 => h0
  | n + 1 => match L n with
    | true => (atH wr h0 L n).sets (wr n)
    | false => atH wr h0 L n
theorem Env.put_other (e : Env) {o : Option Tmp} {v : V} {t : Tmp} (h : o ≠ some t) : e.put o v t = e t := by
  cases o with
  | none => rfl
  | some d => exact Env.set_other e v fun e => h (by rw [e])
theorem atE_skip {e0 : Env} {L : Nat → Bool} {t : Tmp} (m : Nat) : ∀ n, m ≤ n → (∀ j q, m ≤ j → j < n → ops[j]? = some q → q.dst = some t → L j = false) → atE ops val e0 L n t = atE ops val e0 L m t
  | 0, hm, _ => by have : m = 0 := by omega
                   subst this; rfl
  | n + 1, hm, h => by
    by_cases he : m = n + 1
    · subst he; rfl
    rw [← atE_skip m n (by omega) fun j q a b => h j q a (by omega)]
    simp only [atE]
    cases hL : L n with
    | true =>
      cases ho : ops[n]? with
      | some o => exact Env.put_other _ fun hd => by rw [h n o (by omega) (by omega) ho hd] at hL; cases hL
      | none => rfl
    | false => rfl
theorem atH_skip {h0 : Hp} {L : Nat → Bool} {k : Nat} (m : Nat) : ∀ n, m ≤ n → (∀ j, m ≤ j → j < n → k ∈ keysOf (wr j) → L j = false) → atH wr h0 L n k = atH wr h0 L m k
  | 0, hm, _ => by have : m = 0 := by omega
                   subst this; rfl
  | n + 1, hm, h => by
    by_cases he : m = n + 1
    · subst he; rfl
    rw [← atH_skip m n (by omega) fun j a b => h j a (by omega)]
    simp only [atH]
    cases hL : L n with
    | true => exact Hp.sets_other _ _ _ fun hd => by rw [h n (by omega) (by omega) hd] at hL; cases hL
    | false => rfl
theorem atE_text [Inhabited TabT] (hr : Run P cx ops val rd wr E H) {L : Nat → Bool} {t : Tmp} : ∀ n, n ≤ ops.length → (∀ j q, j < n → ops[j]? = some q → q.dst = some t → L j = true) → atE ops val (E 0) L n t = E n t
  | 0, _, _ => rfl
  | n + 1, hn, h => by
    have ih := atE_text hr n (by omega) fun j q a => h j q (by omega)
    have ho : ops[n]? = some ops[n] := by simp [show n < ops.length by omega]
    rw [(hr.step n _ ho).1]
    simp only [atE, ho]
    by_cases hd : ops[n].dst = some t
    · rw [h n _ (by omega) ho hd, hd]
      simp only [Env.put, Env.set_same]
    · rw [Env.put_other _ hd]
      cases L n with
      | true => simp only; rw [Env.put_other _ hd]; exact ih
      | false => exact ih
theorem atH_text [Inhabited TabT] (hr : Run P cx ops val rd wr E H) {L : Nat → Bool} {k : Nat} : ∀ n, n ≤ ops.length → (∀ j, j < n → k ∈ keysOf (wr j) → L j = true) → atH wr (H 0) L n k = H n k
  | 0, _, _ => rfl
  | n + 1, hn, h => by
    have ih := atH_text hr n (by omega) fun j a => h j (by omega)
    have ho : ops[n]? = some ops[n] := by simp [show n < ops.length by omega]
    rw [(hr.step n _ ho).2.1]
    simp only [atH]
    by_cases hd : k ∈ keysOf (wr n)
    · rw [h n (by omega) hd]
      exact Hp.sets_same _ _ _ _ hd
    · rw [Hp.sets_other _ _ _ hd]
      cases L n with
      | true => simp only; rw [Hp.sets_other _ _ _ hd]; exact ih
      | false => exact ih
def Lof (L : Array Bool) : Nat → Bool := fun j => L.getD j false
theorem atE_congr {e0 : Env} {L L' : Nat → Bool} : ∀ n, (∀ j, j < n → L j = L' j) → atE ops val e0 L n = atE ops val e0 L' n
  | 0, _ => rfl
  | n + 1, h => by simp only [atE]; rw [h n (by omega), atE_congr n fun j hj => h j (by omega)]
theorem atH_congr {h0 : Hp} {L L' : Nat → Bool} : ∀ n, (∀ j, j < n → L j = L' j) → atH wr h0 L n = atH wr h0 L' n
  | 0, _ => rfl
  | n + 1, h => by simp only [atH]; rw [h n (by omega), atH_congr n fun j hj => h j (by omega)]
/-- one more has been carried out -/
theorem atE_more {e0 : Env} {L L' : Nat → Bool} {i : Nat} {o : Oper} (hi : ops[i]? = some o) (h0 : L i = false) (h1 : L' i = true) (hL : ∀ j, j ≠ i → L' j = L j) (hlate : ∀ j q t, i < j → ops[j]? = some q → q.dst = some t → o.dst = some t → L j = false) :
    atE ops val e0 L' ops.length = (atE ops val e0 L ops.length).put o.dst (val i) := by
  have hlt := (List.getElem?_eq_some_iff.1 hi).1
  funext t
  have hsame : ∀ n, n ≤ i → atE ops val e0 L' n = atE ops val e0 L n := fun n hn => atE_congr n fun j hj => hL j (by omega)
  by_cases hd : o.dst = some t
  · rw [atE_skip (i + 1) ops.length (by omega) fun j q a b hq hqd => by rw [hL j (by omega)]; exact hlate j q t (by omega) hq hqd hd]
    simp only [atE, h1, hi, hd, Env.put, Env.set_same]
  · rw [Env.put_other _ hd]
    have key : ∀ n, n ≤ ops.length → atE ops val e0 L' n t = atE ops val e0 L n t := by
      intro n
      induction n with
      | zero => intro _; rfl
      | succ n ih =>
        intro hn
        simp only [atE]
        by_cases hni : n = i
        · subst hni
          rw [h0, h1, hi]
          simp only
          rw [Env.put_other _ hd]
          exact ih (by omega)
        · rw [hL n hni]
          cases L n with
          | true =>
            cases hq : ops[n]? with
            | some q =>
              simp only
              by_cases hqd : q.dst = some t
              · rw [hqd]; simp [Env.put, Env.set_same]
              · rw [Env.put_other _ hqd, Env.put_other _ hqd]; exact ih (by omega)
            | none => exact ih (by omega)
          | false => exact ih (by omega)
    exact key _ (Nat.le_refl _)
theorem atH_more {h0 : Hp} {L L' : Nat → Bool} {i n0 : Nat} (hlt : i < n0) (hi0 : L i = false) (h1 : L' i = true) (hL : ∀ j, j ≠ i → L' j = L j) (hlate : ∀ j k, i < j → j < n0 → k ∈ keysOf (wr j) → k ∈ keysOf (wr i) → L j = false) :
    atH wr h0 L' n0 = (atH wr h0 L n0).sets (wr i) := by
  funext k
  have hsame : ∀ n, n ≤ i → atH wr h0 L' n = atH wr h0 L n := fun n hn => atH_congr n fun j hj => hL j (by omega)
  by_cases hd : k ∈ keysOf (wr i)
  · rw [atH_skip (i + 1) n0 (by omega) fun j a b hq => by rw [hL j (by omega)]; exact hlate j k (by omega) b hq hd]
    simp only [atH, h1]
    exact Hp.sets_same _ _ _ _ hd
  · rw [Hp.sets_other _ _ _ hd]
    have key : ∀ n, n ≤ n0 → atH wr h0 L' n k = atH wr h0 L n k := by
      intro n
      induction n with
      | zero => intro _; rfl
      | succ n ih =>
        intro hn
        simp only [atH]
        by_cases hni : n = i
        · subst hni
          rw [hi0, h1]
          simp only
          rw [Hp.sets_other _ _ _ hd]
          exact ih (by omega)
        · rw [hL n hni]
          cases L n with
          | true =>
            simp only
            by_cases hk : k ∈ keysOf (wr n)
            · exact Hp.sets_same _ _ _ _ hk
            · rw [Hp.sets_other _ _ _ hk, Hp.sets_other _ _ _ hk]; exact ih (by omega)
          | false => exact ih (by omega)
    exact key _ (Nat.le_refl _)
/-- whatever two operations touch alike, one waits for the other -/
structure Conf (ops : List Oper) (rd : Nat → List Nat) (wr : Nat → List (Nat × Blk)) : Prop where
  w : ∀ i j k, j < i → i < ops.length → k ∈ keysOf (wr i) → (k ∈ rd j ∨ k ∈ keysOf (wr j)) → Reach ops i j
  r : ∀ i j k, j < i → i < ops.length → k ∈ rd i → k ∈ keysOf (wr j) → Reach ops i j
theorem anyN_of {a b : List Nat} {k : Nat} (ha : k ∈ a) (hb : k ∈ b) : anyN a b = true :=
  List.any_eq_true.2 ⟨k, ha, List.any_eq_true.2 ⟨k, hb, Nat.beq_refl k⟩⟩
theorem confRow_spec {m : Nat} {rs ws : List Nat} : ∀ n, confRow m rs ws (recs rd wr n) = true → ∀ j, j < n → (anyN ws (rd j) || anyN rs (keysOf (wr j)) || anyN ws (keysOf (wr j))) = true → m.testBit j = true
  | 0, _, j, hj, _ => by omega
  | n + 1, h, j, hj, hc => by
    simp only [recs, confRow, Bool.and_eq_true, recs_len] at h
    by_cases he : j = n
    · subst he
      have := h.1
      rw [hc] at this
      simpa using this
    · exact confRow_spec n h.2 j (by omega) hc
theorem confB_spec {ms : List Nat} : ∀ n, confB ms (recs rd wr n) = true → ∀ i, i < n → confRow (ms.getD i 0) (rd i) (keysOf (wr i)) (recs rd wr i) = true
  | 0, _, i, hi => by omega
  | n + 1, h, i, hi => by
    simp only [recs, confB, Bool.and_eq_true, recs_len] at h
    by_cases he : i = n
    · subst he; exact h.1
    · exact confB_spec n h.2 i (by omega)
theorem conf_of (h : confB (masks ops []) (recs rd wr ops.length) = true) : Conf ops rd wr where
  w := fun i j k hj hi hk hc => mask_reach (confRow_spec i (confB_spec _ h i hi) j hj (by
    rcases hc with hc | hc
    · simp [anyN_of hk hc]
    · simp [anyN_of hk hc]))
  r := fun i j k hj hi hk hc => mask_reach (confRow_spec i (confB_spec _ h i hi) j hj (by simp [anyN_of hk hc]))

theorem any_order [Inhabited TabT] (hN : ∀ o ∈ ops, ∀ t, o.dst = some t → t < N) (hsl : Slots ops) (hr : Run P cx ops val rd wr E H) (hcf : Conf ops rd wr) {Q : Exit → Env → Hp → Prop} (hq : Q .normal (E ops.length) (H ops.length)) : ∀ (fuel : Nat) (L : Array Bool) (a : Act) (w : World) (R : Nat → Prop) (ρ : Rho),
    Down ops L → cnt L.toList ≤ fuel → L.size = ops.length → St P cx (atH wr (H 0) (Lof L) ops.length) w R ρ → There (atH wr (H 0) (Lof L) ops.length) ρ → An an ρ → EnvRep N (atE ops val (E 0) (Lof L) ops.length) a w R ρ →
    wpAny P .any ops.toArray (Lift P N cx an Q) fuel L a w := by
  intro fuel
  have fin : ∀ (L : Array Bool) (a : Act) (w : World) (R : Nat → Prop) (ρ : Rho), (∀ j, j < ops.length → L.getD j false = true) → St P cx (atH wr (H 0) (Lof L) ops.length) w R ρ → There (atH wr (H 0) (Lof L) ops.length) ρ → An an ρ → EnvRep N (atE ops val (E 0) (Lof L) ops.length) a w R ρ → Lift P N cx an Q .normal a w := fun L a w R ρ hall s t ha en => by
    have e1 : atE ops val (E 0) (Lof L) ops.length = E ops.length := funext fun t => atE_text hr _ (Nat.le_refl _) fun j q hj _ _ => hall j hj
    have e2 : atH wr (H 0) (Lof L) ops.length = H ops.length := funext fun t => atH_text hr _ (Nat.le_refl _) fun j hj _ => hall j hj
    rw [e1] at en
    rw [e2] at s t
    exact ⟨_, _, R, ρ, hq, s, t, ha, en⟩
  induction fuel with
  | zero =>
    intro L a w R ρ hdn hc hs s t ha en
    have hall : ∀ j, j < ops.length → L.getD j false = true := fun j hj => (getD_of (by omega) false).2 (cnt_zero _ (by omega) j (by simp; omega))
    refine ⟨?_, fin L a w R ρ hall s t ha en⟩
    refine List.eq_nil_iff_forall_not_mem.2 fun i hi => ?_
    obtain ⟨hu, o, ho, _⟩ := mem_ready.1 hi
    have hlt : i < ops.length := by simpa using (Array.getElem?_eq_some_iff.1 ho).1
    have := hall i hlt
    rw [unlisted hu] at this
    cases this
  | succ fuel ih =>
    intro L a w R ρ hdn hc hs s t ha en
    refine ⟨fun h0 => fin L a w R ρ (fun j hj => ?_) s t ha en, fun i hi => ?_⟩
    · -- nothing is ready: all is done
      have key : ∀ m, ∀ j, j < m → j < ops.length → L.getD j false = true := by
        intro m
        induction m with
        | zero => intro j hj; omega
        | succ m ihm =>
          intro j hj hjl
          rcases Nat.lt_or_ge j m with h1 | h1
          · exact ihm j h1 hjl
          · have hjm : j = m := by omega
            subst hjm
            rw [← Bool.not_eq_false]
            intro hf
            have hmem : j ∈ Region.ready .any ops.toArray L := mem_ready.2 ⟨unlisted' (by omega) hf, ops[j], by simp [hjl], fun ed he hb => by
              have := hsl.back j ops[j] (by simp [hjl]) ed he hb
              exact ihm _ this (by omega)⟩
            rw [h0] at hmem; cases hmem
      exact key (j + 1) j (by omega) hj
    · obtain ⟨hu, o, ho, hall⟩ := mem_ready.1 hi
      have hio : ops[i]? = some o := by simpa using ho
      have hlt := (List.getElem?_eq_some_iff.1 hio).1
      have hpre := waits_after hall
      have hdn' : Down ops (L.setIfInBounds i true) := hdn.next hu hio hpre
      have early : ∀ j, Reach ops i j → L.getD j false = true := fun j hj => hdn.reach hj fun q m hq hm => by rw [hio] at hq; cases hq; exact hpre m hm
      have late : ∀ j, Reach ops j i → L.getD j false = false := fun j hj => by
        rw [← Bool.not_eq_true]
        intro hl
        have := hdn.reach hj fun q m hq hm => hdn j q m hl hq hm
        rw [unlisted hu] at this; cases this
      have hslot : ∀ tt, tt ∈ looks ops o → atE ops val (E 0) (Lof L) ops.length tt = E i tt := fun tt htt => by
        rw [atE_skip i ops.length (by omega) fun j q h1 h2 hq hqd => ?_]
        · exact atE_text hr i (by omega) fun j q h1 hq hqd => early j (hsl.slot i o j q hio hq h1 (slotC_r hqd htt))
        · by_cases hji : j = i
          · subst hji; exact unlisted hu
          · exact late j (hsl.slot j q i o hq hio (by omega) (slotC_w hqd htt))
      have hagree : ∀ k, k ∈ rd i → atH wr (H 0) (Lof L) ops.length k = H i k := fun k hk => by
        rw [atH_skip i ops.length (by omega) fun j h1 h2 hw => ?_]
        · exact atH_text hr i (by omega) fun j h1 hw => early j (hcf.r i j k h1 hlt hk hw)
        · by_cases hji : j = i
          · subst hji; exact unlisted hu
          · exact late j (hcf.w j i k (by omega) h2 hw (.inl hk))
      have hrd : ∀ x ∈ o.op.operands, Rep w R ρ ((E i).rd x) (a.eval x) := fun x hx => by
        have := en.rd s.glob x
        cases x with
        | tmp tt =>
          have h1 : tt ∈ looks ops o := List.mem_append_left _ (List.mem_filterMap.2 ⟨.tmp tt, by simpa using hx, rfl⟩)
          simp only [Env.rd] at this ⊢
          rw [← hslot tt h1]; exact this
        | const u => exact this
        | global g => exact this
        | func f => exact this
      have hguard : ∀ j o' tt, o.guard.map (·.1) = some j → ops[j]? = some o' → o'.dst = some tt → Rep w R ρ (E i tt) (a.tmps.getD tt undef) := fun j o' tt hg hj hd => by
        have h1 : tt ∈ looks ops o := by
          refine List.mem_append_right _ ?_
          unfold guards
          cases hgg : o.guard with
          | none => simp [hgg] at hg
          | some p =>
            obtain ⟨g, b⟩ := p
            simp [hgg] at hg
            subst hg
            simp [hj, hd]
        rw [← hslot tt h1]; exact en.rep tt
      have hN' := hN o (List.mem_of_getElem? hio)
      obtain ⟨q1, q2, q3⟩ := hr.step i o hio
      have hLi : Lof L i = false := unlisted hu
      have hLi' : Lof (L.setIfInBounds i true) i = true := (set_getD hu).2 (.inl rfl)
      have hLj : ∀ j, j ≠ i → Lof (L.setIfInBounds i true) j = Lof L j := fun j hj => by
        unfold Lof
        cases hq : L.getD j false with
        | true => exact (set_getD hu).2 (.inr hq)
        | false =>
          rw [← Bool.not_eq_true]
          intro hh
          rcases (set_getD hu).1 hh with h1 | h1
          · exact hj h1
          · rw [hq] at h1; cases h1
      have mE := atE_more (val := val) (e0 := E 0) hio hLi hLi' hLj (fun j q tt h1 hq hqd hod => late j (hsl.slot j q i o hq hio h1 (slotC_d hqd hod)))
      have mH := atH_more (wr := wr) (h0 := H 0) hlt hLi hLi' hLj (fun j k h1 h2 hj hi => late j (hcf.w j i k h1 h2 hj (.inr hi)))
      unfold wpOp
      simp only [ho]
      rcases q3 with ⟨hg, hdo⟩ | ⟨hg, hv, hw⟩
      · rw [wanted_of (w := w) (R := R) (ρ := ρ) hg hguard, if_pos rfl]
        left
        have hst := hdo (atH wr (H 0) (Lof L) ops.length) hagree R ρ a w s hrd t
        refine Upon.next hst fun x w' ⟨R', ρ', s1, s2, s3, s4⟩ => ?_
        refine ih _ _ w' R' ρ' hdn' (cnt_step hu hc) (by simp [hs]) (by rw [mH]; exact s1) (by rw [mH]; exact s2) (ha.ext s3) ?_
        rw [mE]
        exact (en.ext s3).put _ hN' s4
      · rw [wanted_of (w := w) (R := R) (ρ := ρ) hg hguard]
        simp only [Bool.false_eq_true, if_false]
        rw [hw] at mH
        refine ih _ _ w R ρ hdn' (cnt_step hu hc) (by simp [hs]) (by rw [mH]; exact s) (by rw [mH]; exact t) ha ?_
        rw [mE, hv]
        exact en.put _ hN' .und
theorem region_draw [Inhabited TabT] (hm : P.follows .mixedOrders = true) (hT : TabOk P T) (hC : ConsOk P C) {id c0 : Nat} {ops : List Oper} (hN : ∀ o ∈ ops, ∀ t, o.dst = some t → t < N) (hd : slotB ops = true) {Q : Exit → Env → Hp → Prop} {e : Env} {h : Hp} {a : Act} {w : World} {R : Nat → Prop} {ρ : Rho}
    (hs : St P cx h w R ρ) (ht : There h ρ) (ha : An an ρ) (he : EnvRep N e a w R ρ) (hk : drawK C T ops c0 e h (Q .normal)) : (Code.region id ops.toArray true).wp P (Lift P N cx an Q) a w := by
  unfold drawK at hk
  obtain ⟨val, rd, wr, E, H, h1, h2, _, h3, h4, h5⟩ := run_of (cx := cx) hT hC ops 0 e h [] (fun _ => []) (fun _ => []) (Nat.zero_le _) rfl rfl hk
  have hr : Run P cx ops val rd wr E H := ⟨fun i o ho => h3 i o (Nat.zero_le _) ho⟩
  obtain ⟨s1, s2⟩ := hs.drew
  have he' := he.ext s2
  have cnt_rep : ∀ m, cnt (List.replicate m false) = m := fun m => by
    induction m with
    | zero => rfl
    | succ m ih => simp [List.replicate_succ, cnt, ih]; omega
  have e0 : atE ops val (E 0) (Lof (Array.replicate ops.length false)) ops.length = e := by
    rw [← h1]; funext t
    exact atE_skip 0 _ (Nat.zero_le _) fun j q _ _ _ _ => by simp [Lof, Array.getD]
  have e1 : atH wr (H 0) (Lof (Array.replicate ops.length false)) ops.length = h := by
    rw [← h2]; funext t
    exact atH_skip 0 _ (Nat.zero_le _) fun j _ _ _ => by simp [Lof, Array.getD]
  refine wp_region_any hm ?_
  have := any_order (an := an) hN (slots_of hd) hr (conf_of h4) h5 ops.length (Array.replicate ops.length false) a w.drew R ρ (fun i o j h => by simp [Array.getD] at h) (by simp [cnt_rep]) (by simp) (by rw [e1]; exact s1) (by rw [e1]; exact ht) ha (by rw [e0]; exact he')
  simpa using this
end
end Go.Proofs.YthchmjdgepbjpaaDoor

-- tabvar