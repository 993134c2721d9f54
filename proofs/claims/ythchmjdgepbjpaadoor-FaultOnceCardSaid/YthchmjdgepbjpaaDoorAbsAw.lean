/-
  Walks by abstract values, of whole bodies: the rules for each form of code; a loop; a contract out of a body. No conditions but closed tests.
-/
import Derived.Test.YthchmjdgepbjpaaDoorAbsDraw
import Derived.LoopN
namespace Go.Proofs.YthchmjdgepbjpaaDoor
open Go.RowKit
set_option linter.unusedSimpArgs false
set_option linter.unusedVariables false

/-- the code, begun where the walk stands, comes to Q; the first na blocks keep their names -/
structure AW [Inhabited TabT] (P : Program) (N na : Nat) (c : Code) (e : Env) (h : Hp) (Q : Exit → Env → Hp → Prop) : Prop where
  run : ∀ cx an R ρ a w, (∀ k, na ≤ k → an k = none) → St P cx h w R ρ → There h ρ → An an ρ → EnvRep N e a w R ρ → c.wp P (Lift P N cx an Q) a w
/-- what a seat's program and its table are good for -/
structure Base (P : Program) (T : Tab) : Prop where
  follows : P.follows .mixedOrders = true
  tab : TabOk P T
def regB (N : Nat) (l : List Oper) (d : Bool) : Bool := (l.all fun o => match o.dst with | some t => Nat.blt t N | none => true) && (!d || slotB l)
abbrev conP [Inhabited TabT] (P : Program) : Cons := ⟨Fn P, FnM P⟩
theorem conP_ok [Inhabited TabT] (P : Program) : ConsOk P (conP P) := ⟨fun _ _ _ h => h, fun _ _ _ _ _ h => h⟩

section
variable {P : Program} {N na : Nat} {e : Env} {h : Hp} {Q : Exit → Env → Hp → Prop} {T : Tab}

theorem AW.seq [Inhabited TabT] {x y : Code} (k : AW P N na x e h (fun ex e h => match ex with | .normal => AW P N na y e h Q | ex => Q ex e h)) : AW P N na (.seq x y) e h Q :=
  ⟨fun cx an R ρ a w hn hs ht ha he => wp_seq (wp_mono (k.run cx an R ρ a w hn hs ht ha he) fun ex a w ⟨e, h, R, ρ, q, s, t, ha, u⟩ => by
    cases ex with
    | normal => exact (show AW P N na y e h Q from q).run cx an R ρ a w hn s t ha u
    | _ => exact ⟨e, h, R, ρ, q, s, t, ha, u⟩)⟩
def condK (v : V) (p q : Prop) : Prop := match v with | .bool b => Br b p q | .tst c => (c → p) ∧ q | _ => False
theorem AW.cond [Inhabited TabT] {c : Operand} {x y : Code} (k : condK (e.rd c) (AW P N na x e h Q) (AW P N na y e h Q)) : AW P N na (.cond c x y) e h Q := by
  refine ⟨fun cx an R ρ a w hn hs ht ha he => ?_⟩
  unfold condK at k
  split at k
  · rename_i b hb
    have h1 := he.rd hs.glob c
    rw [hb] at h1
    rcases Br.cases k with ⟨rfl, k'⟩ | ⟨rfl, k'⟩
    · exact wp_cond h1.of_bool (k'.run cx an R ρ a w hn hs ht ha he)
    · exact wp_cond h1.of_bool (k'.run cx an R ρ a w hn hs ht ha he)
  · rename_i p hp
    have h1 := he.rd hs.glob c
    rw [hp] at h1
    generalize hx : a.eval c = x0 at h1
    cases h1 with
    | tst hb =>
      rename_i b
      cases b with
      | true => exact wp_cond hx ((k.1 (hb rfl)).run cx an R ρ a w hn hs ht ha he)
      | false => exact wp_cond hx (k.2.run cx an R ρ a w hn hs ht ha he)
  · exact k.elim
theorem AW.block [Inhabited TabT] {id : Nat} {c : Code} (k : AW P N na c e h (fun ex e h => match ex with | .exit j => (match Nat.beq j id with | true => Q .normal e h | false => Q (.exit j) e h) | ex => Q ex e h)) : AW P N na (.block id c) e h Q :=
  ⟨fun cx an R ρ a w hn hs ht ha he => wp_block (wp_mono (k.run cx an R ρ a w hn hs ht ha he) fun ex a w ⟨e, h, R, ρ, q, s, t, ha, u⟩ => by
    cases ex with
    | exit j =>
      simp only at q
      simp only [Exit.inBlock]
      by_cases hj : j = id
      · subst hj
        rw [if_pos rfl]
        simp only [Nat.beq_refl] at q
        exact ⟨e, h, R, ρ, q, s, t, ha, u⟩
      · rw [if_neg hj]
        rw [show Nat.beq j id = false from by rw [← Bool.not_eq_true]; intro hh; exact hj (Nat.eq_of_beq_eq_true hh)] at q
        exact ⟨e, h, R, ρ, q, s, t, ha, u⟩
    | _ => exact ⟨e, h, R, ρ, q, s, t, ha, u⟩)⟩
theorem AW.exit [Inhabited TabT] {id : Nat} (k : Q (.exit id) e h) : AW P N na (.exit id) e h Q := ⟨fun cx an R ρ a w hn hs ht ha he => wp_exit ⟨e, h, R, ρ, k, hs, ht, ha, he⟩⟩
theorem AW.ret [Inhabited TabT] (k : Q .ret e h) : AW P N na .ret e h Q := ⟨fun cx an R ρ a w hn hs ht ha he => wp_ret ⟨e, h, R, ρ, k, hs, ht, ha, he⟩⟩
theorem AW.skip [Inhabited TabT] (k : Q .normal e h) : AW P N na .skip e h Q := ⟨fun cx an R ρ a w hn hs ht ha he => wp_skip ⟨e, h, R, ρ, k, hs, ht, ha, he⟩⟩
theorem AW.region [Inhabited TabT] (B : Base P T) {id : Nat} {l : List Oper} {d : Bool} (hb : regB N l d = true) (k : match d with | true => drawK (conP P) T l (1000 * (id + 1)) e h (Q .normal) | false => opsK (conP P) T l (1000 * (id + 1)) l e h [] (fun e h _ => Q .normal e h)) : AW P N na (.region id l.toArray d) e h Q := by
  simp only [regB, Bool.and_eq_true] at hb
  obtain ⟨h1, h2⟩ := hb
  have hN : ∀ o ∈ l, ∀ t, o.dst = some t → t < N := fun o ho t hd => by
    have := List.all_eq_true.1 h1 o ho
    rw [hd] at this
    simpa [Nat.blt_eq] using this
  refine ⟨fun cx an R ρ a w hn hs ht ha he => ?_⟩
  cases d with
  | false =>
    refine wp_region ?_
    have := ops_seq (cx := cx) (an := an) B.tab (conP_ok P) hN l 0 (1000 * (id + 1)) e h [] a w R ρ (by simp) hs ht ha he k
    simpa [List.range_eq_range'] using this
  | true =>
    exact region_draw B.follows B.tab (conP_ok P) hN (by simpa using h2) hs ht ha he k

/-! ### where the walk begins anew: what is known of some slots, of some blocks -/
structure Inv where
  env : List (Nat × V)
  blks : List Blk := []
def envL : List (Nat × V) → Env
  | [], _ => .any
  | (t, v) :: r, s => match Nat.beq s t with | true => v | false => envL r s
def Inv.en (I : Inv) : Env := envL I.env
def Inv.hp (I : Inv) : Hp := hpL I.blks
def fitsEnv (σ : List Nat) (e : Env) : List (Nat × V) → Prop → Prop
  | [], p => p
  | (t, v) :: r, p => renK σ 60 v fun u => e t = u ∧ fitsEnv σ e r p
def idB (na : Nat) (σ : List Nat) : Bool := (List.range na).all fun i => match nthN σ i with | some k => Nat.beq k i | none => false
/-- the walk's state is one of which I is true; the blocks that keep their names do -/
structure Fits (na : Nat) (e : Env) (h : Hp) (I : Inv) : Prop where
  fits : ∃ σ : List Nat, fitsEnv σ e I.env (hasBk h σ σ I.blks (distinctB σ = true ∧ idB na σ = true))

variable {w : World} {R : Nat → Prop} {ρ : Rho} {cx : Cx} {a : Act} {an : Rho}
theorem beqN {a b : Nat} : Nat.beq a b = true ↔ a = b := ⟨Nat.eq_of_beq_eq_true, fun h => by subst h; exact Nat.beq_refl a⟩
/-- a block is given a number, or another number -/
theorem St.add [Inhabited TabT] {hh : Hp} (hs : St P cx hh w R ρ) (ht : There hh ρ) {k : Nat} (hk : hh k = none) {o : RObj} {b : Blk} (hb : BRep P w R (ρ.set k o) o b) (hd : ∀ k' o' n, Live hh k' → ρ k' = some o' → o.own = some n → o'.own ≠ some n) (hm : ∀ n, o.own = some n → ¬ R n ∧ n < w.heap.size ∧ (cx.w0.heap.size ≤ n ∨ cx.M n)) :
    St P cx (hh.set k (some b)) w R (ρ.set k o) ∧ There (hh.set k (some b)) (ρ.set k o) ∧ Ext w R ρ w R (ρ.set k o) := by
  have hc := ht.free hk
  have e : Ext w R ρ w R (ρ.set k o) := ⟨fun _ h => h, fun _ _ => rfl, fun j oj hj => by
    unfold Rho.set; rw [if_neg]; exact hj
    intro he; subst he; rw [hc] at hj; cases hj⟩
  have hlive : ∀ j, j ≠ k → Live (hh.set k (some b)) j → Live hh j := fun j hj ⟨bb, hbb, hdd⟩ => ⟨bb, by rw [Hp.set_other hh _ hj] at hbb; exact hbb, hdd⟩
  have hrho : ∀ j oj, (ρ.set k o) j = some oj → (j = k ∧ oj = o) ∨ (j ≠ k ∧ ρ j = some oj) := fun j oj hj => by
    unfold Rho.set at hj
    split at hj
    · rename_i he; simp at hj; exact .inl ⟨he, hj.symm⟩
    · rename_i he; exact .inr ⟨he, hj⟩
  refine ⟨⟨hs.keeps, fun j oj bb hj hbb => ?_, fun j j' oj oj' n hne l l' hj hj' hn => ?_, fun j oj n l hj hn => ?_, hs.rlt, hs.rold, hs.glob⟩, fun j oj hj => ?_, e⟩
  · rcases hrho j oj hj with ⟨rfl, rfl⟩ | ⟨j1, j2⟩
    · rw [Hp.set_same] at hbb; cases hbb; exact hb
    · rw [Hp.set_other hh _ j1] at hbb
      exact (hs.brep j oj bb j2 hbb).keep e fun n _ _ => rfl
  · rcases hrho j oj hj with ⟨rfl, rfl⟩ | ⟨j1, j2⟩ <;> rcases hrho j' oj' hj' with ⟨rfl, rfl⟩ | ⟨j1', j2'⟩
    · exact absurd rfl hne
    · exact hd j' oj' n (hlive _ j1' l') j2' hn
    · intro hn'; exact hd j oj n (hlive _ j1 l) j2 hn' hn
    · exact hs.apart j j' oj oj' n hne (hlive _ j1 l) (hlive _ j1' l') j2 j2' hn
  · rcases hrho j oj hj with ⟨rfl, rfl⟩ | ⟨j1, j2⟩
    · exact hm n hn
    · exact hs.mine j oj n (hlive _ j1 l) j2 hn
  · rcases hrho j oj hj with ⟨rfl, rfl⟩ | ⟨j1, j2⟩
    · rw [Hp.set_same]; simp
    · rw [Hp.set_other hh _ j1]; exact ht j oj j2
theorem envL_spec {s : Nat} : ∀ (l : List (Nat × V)), (∃ v, (s, v) ∈ l ∧ envL l s = v) ∨ envL l s = .any
  | [] => .inr rfl
  | (t, v) :: r => by
    simp only [envL]
    split
    · rename_i hb
      exact .inl ⟨v, by rw [beqN.1 hb]; exact List.mem_cons_self, rfl⟩
    · rcases envL_spec (s := s) r with ⟨v', h1, h2⟩ | h
      · exact .inl ⟨v', List.mem_cons_of_mem _ h1, h2⟩
      · exact .inr h
theorem fitsEnv_spec {σ : List Nat} : ∀ {l : List (Nat × V)} {p : Prop}, fitsEnv σ e l p → (∀ t v, (t, v) ∈ l → e t = V.ren σ 60 v) ∧ p
  | [], p, h => ⟨by simp, h⟩
  | (t, v) :: r, p, h => by
    obtain ⟨u, h1, _, hu⟩ := renK_spec σ 60 v _ h
    obtain ⟨h2, h3⟩ := h1
    obtain ⟨h4, h5⟩ := fitsEnv_spec h3
    refine ⟨fun t' v' hm => ?_, h5⟩
    rcases List.mem_cons.1 hm with hm | hm
    · cases hm; rw [h2, hu]
    · exact h4 t' v' hm
theorem idB_spec {σ : List Nat} (h : idB na σ = true) : ∀ i, i < na → σ[i]? = some i := fun i hi => by
  have := List.all_eq_true.1 h i (List.mem_range.2 hi)
  rw [nthN_get] at this
  split at this
  · rename_i k hk; rw [hk, Nat.eq_of_beq_eq_true this]
  · cases this
theorem An.via {σ : List Nat} (ha : An an ρ) (hn : ∀ k, na ≤ k → an k = none) (hi : idB na σ = true) : An an (ρ.via σ) := fun k o hk => by
  have hlt : k < na := by
    rcases Nat.lt_or_ge k na with h1 | h1
    · exact h1
    · rw [hn k h1] at hk; cases hk
  simp only [Rho.via, idB_spec hi k hlt]
  exact ha k o hk
theorem Fits.state [Inhabited TabT] {I : Inv} (hf : Fits na e h I) (hn : ∀ k, na ≤ k → an k = none) (hs : St P cx h w R ρ) (ha : An an ρ) (he : EnvRep N e a w R ρ) : ∃ ρ', St P cx I.hp w R ρ' ∧ There I.hp ρ' ∧ An an ρ' ∧ EnvRep N I.en a w R ρ' := by
  obtain ⟨σ, hf⟩ := hf.fits
  obtain ⟨h1, hf⟩ := fitsEnv_spec hf
  obtain ⟨h2, h3, h4⟩ := hasBk_spec hf
  obtain ⟨s1, s2⟩ := hs.via (distinct_spec h3) h2
  refine ⟨_, s1, s2, ha.via hn h4, ⟨he.size, fun t => ?_, he.defers⟩⟩
  rcases envL_spec (s := t) I.env with ⟨v, h5, h6⟩ | h5
  · show Rep w R _ (envL I.env t) _
    rw [h6]
    have := he.rep t
    rw [h1 t v h5] at this
    exact Rep.unren σ 60 v _ this
  · show Rep w R _ (envL I.env t) _
    rw [h5]; exact .any
/-- THE WALK BEGINS ANEW with what I says -/
theorem AW.cut [Inhabited TabT] {c : Code} (I : Inv) (hf : Fits na e h I) (k : AW P N na c I.en I.hp Q) : AW P N na c e h Q :=
  ⟨fun cx an R ρ a w hn hs ht ha he => by obtain ⟨ρ', s1, s2, s3, s4⟩ := hf.state hn hs ha he; exact k.run cx an R ρ' a w hn s1 s2 s3 s4⟩
/-- TWO PARTS, and what is known between them -/
theorem AW.join [Inhabited TabT] {x y : Code} {ι : Type} (p : ι → Prop) (I : ι → Inv) (k1 : AW P N na x e h (fun ex e h => match ex with | .normal => ∃ j, Fits na e h (I j) ∧ p j | ex => Q ex e h)) (k2 : ∀ j, p j → AW P N na y (I j).en (I j).hp Q) : AW P N na (.seq x y) e h Q :=
  AW.seq ⟨fun cx an R ρ a w hn hs ht ha he => wp_mono (k1.run cx an R ρ a w hn hs ht ha he) fun ex a w ⟨e, h, R, ρ, q, s, t, ha, u⟩ => by
    cases ex with
    | normal => obtain ⟨j, hf, hp⟩ := q; exact ⟨e, h, R, ρ, AW.cut (I j) hf (k2 j hp), s, t, ha, u⟩
    | _ => exact ⟨e, h, R, ρ, q, s, t, ha, u⟩⟩
/-- A LOOP -/
theorem AW.loop [Inhabited TabT] {c : Code} {ι : Type} (p : ι → Prop) (I : ι → Inv) (m : ι → Nat) (i0 : ι) (h0 : p i0) (hf : Fits na e h (I i0))
    (round : ∀ i, p i → AW P N na c (I i).en (I i).hp (fun ex e h => match ex with | .normal => ∃ j, Fits na e h (I j) ∧ p j ∧ m j < m i | ex => Q ex e h)) : AW P N na (.loop c) e h Q := by
  refine ⟨fun cx an R ρ a w hn hs ht ha he => ?_⟩
  classical
  let S : ι → Act → World → Prop := fun i a w => p i ∧ ∃ R ρ, St P cx (I i).hp w R ρ ∧ There (I i).hp ρ ∧ An an ρ ∧ EnvRep N (I i).en a w R ρ
  let J : Act → World → Prop := fun a w => ∃ i, S i a w
  -- the least measure at which the state is one of the loop's
  have least : ∀ a w, J a w → ∃ i, S i a w ∧ ∀ j, S j a w → m i ≤ m j := fun a w hJ => by
    obtain ⟨i, hi⟩ := hJ
    have : ∀ n i, m i ≤ n → S i a w → ∃ i, S i a w ∧ ∀ j, S j a w → m i ≤ m j := fun n => by
      induction n with
      | zero => exact fun i hn hi => ⟨i, hi, fun j _ => by omega⟩
      | succ n ih =>
        intro i hn hi
        by_cases hx : ∃ j, S j a w ∧ m j < m i
        · obtain ⟨j, hj, hl⟩ := hx; exact ih j (by omega) hj
        · exact ⟨i, hi, fun j hj => by
            rcases Nat.lt_or_ge (m j) (m i) with h1 | h1
            · exact absurd ⟨j, hj, h1⟩ hx
            · exact h1⟩
    exact this (m i) i (Nat.le_refl _) hi
  let μ : Act → World → Nat := fun a w => if hJ : J a w then m (Classical.choose (least a w hJ)) else 0
  obtain ⟨ρ', s1, s2, s3, s4⟩ := hf.state hn hs ha he
  refine wp_loop J μ ⟨i0, h0, R, ρ', s1, s2, s3, s4⟩ fun a w hJ => ?_
  have hμ : μ a w = m (Classical.choose (least a w hJ)) := dif_pos hJ
  obtain ⟨⟨hp, R1, ρ1, t1, t2, t3, t4⟩, hmin⟩ := Classical.choose_spec (least a w hJ)
  generalize Classical.choose (least a w hJ) = i at *
  refine wp_mono ((round i hp).run cx an R1 ρ1 a w hn t1 t2 t3 t4) fun ex a' w' ⟨e', h', R', ρ', q, u1, u2, u3, u4⟩ => ?_
  cases ex with
  | normal =>
    obtain ⟨j, hfj, hj, hm⟩ := q
    obtain ⟨ρ'', v1, v2, v3, v4⟩ := hfj.state hn u1 u3 u4
    have hS : S j a' w' := ⟨hj, R', ρ'', v1, v2, v3, v4⟩
    have hJ' : J a' w' := ⟨j, hS⟩
    refine ⟨hJ', ?_⟩
    have hμ' : μ a' w' = m (Classical.choose (least a' w' hJ')) := dif_pos hJ'
    have := (Classical.choose_spec (least a' w' hJ')).2 j hS
    omega
  | _ => exact ⟨e', h', R', ρ', q, u1, u2, u3, u4⟩
/-- so many rounds of a loop, laid out one behind the other -/
def AWr [Inhabited TabT] (P : Program) (N na : Nat) (c : Code) (Q : Exit → Env → Hp → Prop) : Nat → Env → Hp → Prop
  | 0, _, _ => False
  | n + 1, e, h => AW P N na c e h (fun ex e h => match ex with | .normal => AWr P N na c Q n e h | ex => Q ex e h)
theorem AW.rounds [Inhabited TabT] {c : Code} (n : Nat) (k : AWr P N na c Q n e h) : AW P N na (.loop c) e h Q := by
  refine ⟨fun cx an R ρ a w hn hs ht ha he => wp_loop_rounds n ?_⟩
  revert e h R ρ a w
  induction n with
  | zero => intro e h k; exact k.elim
  | succ n ih =>
    intro e h k R ρ a w hs ht ha he
    rw [rounds_succ]
    refine wp_mono (k.run cx an R ρ a w hn hs ht ha he) fun ex a w ⟨e, h, R, ρ, q, s, t, ha, u⟩ => ?_
    cases ex with
    | normal => exact ih q R ρ a w s t ha u
    | _ => exact ⟨e, h, R, ρ, q, s, t, ha, u⟩
/-- a list is no longer than a length can say -/
theorem AW.len [Inhabited TabT] {c : Code} (t : Nat) {xs : List (List V)} (ht : e t = .sl xs) (k : xs.length ≤ maxLen → AW P N na c e h Q) : AW P N na c e h Q := by
  refine ⟨fun cx an R ρ a w hn hs hth ha he => ?_⟩
  have := he.rep t
  rw [ht] at this
  have hl : xs.length ≤ maxLen := by
    generalize a.tmps.getD t undef = y at this
    cases this with
    | slnil => exact Nat.zero_le _
    | sl f hn hc hm hR hE hf h1 hr => omega
  exact (k hl).run cx an R ρ a w hn hs hth ha he
/-- nil becomes a list of one's own, an empty one -/
theorem AW.adopt [Inhabited TabT] {c : Code} (t k : Nat) {el : TypeId} (ht : e t = .nils) (hk : h k = none) (hi : ∃ E, RowInfo P el E) (K : AW P N na c (e.set t (.own k)) (h.set k (some (.rows el []))) Q) : AW P N na c e h Q := by
  refine ⟨fun cx an R ρ a w hn hs hth ha he => ?_⟩
  obtain ⟨E, hE⟩ := hi
  obtain ⟨s1, s2, s3⟩ := hs.add hth hk (o := .hdr (.slice none 0 0)) (b := .rows el []) ⟨E, [], OwnRows.nil w R hE⟩ (fun k' o' n _ _ hn => by cases hn) (fun n hn => by cases hn)
  refine K.run cx an R _ a w hn s1 s2 (ha.ext s3) ⟨he.size, fun s => ?_, he.defers⟩
  by_cases hst : s = t
  · subst hst
    have := he.rep s
    rw [ht] at this
    rw [Env.set_same, this.of_nils]
    exact .own (by simp [Rho.set]) rfl
  · rw [Env.set_other _ _ hst]; exact (he.rep s).ext s3
/-- nil is an empty list -/
theorem AW.nilS [Inhabited TabT] {c : Code} (t : Nat) (ht : e t = .nils) (K : AW P N na c (e.set t (.sl [])) h Q) : AW P N na c e h Q := by
  refine ⟨fun cx an R ρ a w hn hs hth ha he => ?_⟩
  refine K.run cx an R ρ a w hn hs hth ha ⟨he.size, fun s => ?_, he.defers⟩
  by_cases hst : s = t
  · subst hst
    have := he.rep s
    rw [ht] at this
    rw [Env.set_same, this.of_nils]
    exact .slnil
  · rw [Env.set_other _ _ hst]; exact he.rep s
theorem St.recell [Inhabited TabT] {k : Nat} {cs cs' : List V} (hs : St P cx h w R ρ) (hk : h k = some (.cells cs)) (hc : ∀ xs, Reps w R ρ cs xs → Reps w R ρ cs' xs) : St P cx (h.set k (some (.cells cs'))) w R ρ := by
  have hlive : ∀ j, Live (h.set k (some (.cells cs'))) j → Live h j := fun j ⟨b, hb, hd⟩ => by
    by_cases hj : j = k
    · subst hj; exact ⟨_, hk, by simp⟩
    · exact ⟨b, by rwa [Hp.set_other h _ hj] at hb, hd⟩
  refine ⟨hs.keeps, fun j o b hj hb => ?_, fun j j' o o' n hne l l' => hs.apart j j' o o' n hne (hlive j l) (hlive j' l'), fun j o n l => hs.mine j o n (hlive j l), hs.rlt, hs.rold, hs.glob⟩
  by_cases hjk : j = k
  · subst hjk
    rw [Hp.set_same] at hb; cases hb
    have := hs.brep j o _ hj hk
    cases o with
    | hdr v => exact this.elim
    | blk n => obtain ⟨xs, t, h1, h2, h3⟩ := this; exact ⟨xs, t, h1, hc xs h2, h3⟩
  · rw [Hp.set_other h _ hjk] at hb; exact hs.brep j o b hj hb
theorem Reps.nilAt {i : Nat} {cs : List V} {xs : List Value} {v' : V} (hr : Reps w R ρ cs xs) (hi : cs[i]? = some .nils) (hv : ∀ x, Rep w R ρ .nils x → Rep w R ρ v' x) : Reps w R ρ (cs.set i v') xs :=
  ⟨by rw [List.length_set]; exact hr.1, fun j v x hj hx => by
    rw [List.getElem?_set] at hj
    split at hj
    · rename_i he; subst he
      split at hj
      · cases hj; exact hv x (hr.2 i _ x hi hx)
      · cases hj
    · exact hr.2 j v x hj hx⟩
/-- nil in a cell is an empty list -/
theorem AW.nilC [Inhabited TabT] {c : Code} (k i : Nat) {cs : List V} (hk : h k = some (.cells cs)) (hi : cs[i]? = some .nils) (K : AW P N na c e (h.set k (some (.cells (cs.set i (.sl []))))) Q) : AW P N na c e h Q :=
  ⟨fun cx an R ρ a w hn hs ht ha he => K.run cx an R ρ a w hn (hs.recell hk fun xs hr => hr.nilAt hi fun x hx => by rw [hx.of_nils]; exact .slnil) (fun j o hj => Hp.mono_set h k _ j (ht j o hj)) ha he⟩
/-- nil in a cell becomes a list of one's own, an empty one -/
theorem AW.adoptC [Inhabited TabT] {c : Code} (b i k : Nat) {el : TypeId} {cs : List V} (hb : h b = some (.cells cs)) (hi : cs[i]? = some .nils) (hk : h k = none) (hr : ∃ E, RowInfo P el E) (K : AW P N na c e ((h.set k (some (.rows el []))).set b (some (.cells (cs.set i (.own k))))) Q) : AW P N na c e h Q := by
  refine ⟨fun cx an R ρ a w hn hs hth ha he => ?_⟩
  obtain ⟨E, hE⟩ := hr
  obtain ⟨s1, s2, s3⟩ := hs.add hth hk (o := .hdr (.slice none 0 0)) (b := .rows el []) ⟨E, [], OwnRows.nil w R hE⟩ (fun k' o' n _ _ hn => by cases hn) (fun n hn => by cases hn)
  have hbk : b ≠ k := fun e => by subst e; rw [hk] at hb; cases hb
  have hb' : (h.set k (some (.rows el []))) b = some (.cells cs) := by rw [Hp.set_other h _ hbk]; exact hb
  exact K.run cx an R _ a w hn (s1.recell hb' fun xs hr => hr.nilAt hi fun x hx => by rw [hx.of_nils]; exact .own (by simp [Rho.set]) rfl) (fun j o hj => Hp.mono_set _ b _ j (s2 j o hj)) (ha.ext s3) (he.ext s3)
/-- list number k is given up: from here on it is only read -/
theorem AW.freeze [Inhabited TabT] {c : Code} (k : Nat) {el : TypeId} {xs : List (List V)} (hk : h k = some (.rows el xs)) (K : AW P N na c e (h.set k (some (.rd (.sl xs)))) Q) : AW P N na c e h Q :=
  ⟨fun cx an R ρ a w hn hs ht ha he => by
    obtain ⟨s1, s2, _⟩ := hs.frzR hk
    exact K.run cx an _ ρ a w hn s1 (fun j o hj => Hp.mono_set h k _ j (ht j o hj)) ha (he.ext s2)⟩
theorem St.frzC [Inhabited TabT] {k : Nat} {cs : List V} (hs : St P cx h w R ρ) (hk : h k = some (.cells cs)) (hkl : V.klL 60 cs = true) :
    St P cx (h.set k (some (.rd (.elt cs 0)))) w (fun n => R n ∨ stored ρ k n) ρ ∧ Ext w R ρ w (fun n => R n ∨ stored ρ k n) ρ := by
  refine hs.giveUp ⟨_, hk, by simp⟩ fun o ho => ?_
  have hb := hs.brep k o _ ho hk
  cases o with
  | hdr y => exact hb.elim
  | blk n =>
    obtain ⟨xs, t, q1, q2, q3⟩ := hb
    have q2' := q2.klL hkl
    refine ⟨cs, rfl, ?_⟩
    have := Rep.elt (w := w) (R := fun m => R m ∨ stored ρ k m) (ρ := rho0) (row := cs) (b := n) (o := 0) (off := 0) (fun j => xs.getD j undef) (.inr ⟨_, ho, rfl⟩) (fun j hj => by
      rw [Nat.zero_add, cell_of_block q1]; simp [List.getD, List.getElem?_eq_getElem (show j < xs.length by rw [← q2.1]; exact hj)]) (fun j hj => by
      have hj' : j < xs.length := by rw [← q2.1]; exact hj
      simp [List.getD, List.getElem?_eq_getElem hj']; exact q3 _ (List.getElem_mem hj')) (fun j v hj => by
      obtain ⟨y, hy, hr⟩ := q2'.get hj
      simp only [List.getD, hy, Option.getD_some]; exact hr.mono (fun _ h => .inl h) (fun _ _ => rfl) (fun _ _ h => h))
    simpa using this
/-- block number k is given up: from here on it is only read -/
theorem AW.freezeC [Inhabited TabT] {c : Code} (k : Nat) {cs : List V} (hk : h k = some (.cells cs)) (hkl : V.klL 60 cs = true) (K : AW P N na c e (h.set k (some (.rd (.elt cs 0)))) Q) : AW P N na c e h Q :=
  ⟨fun cx an R ρ a w hn hs ht ha he => by
    obtain ⟨s1, s2⟩ := hs.frzC hk hkl
    exact K.run cx an _ ρ a w hn s1 (fun j o hj => Hp.mono_set h k _ j (ht j o hj)) ha (he.ext s2)⟩
theorem of_map {α : Type} {l : List α} {f : α → List V} {i : Nat} {row : List V} (h : (l.map f)[i]? = some row) : ∃ p, l[i]? = some p ∧ f p = row := by
  rw [List.getElem?_map] at h
  cases hq : l[i]? with
  | none => rw [hq] at h; cases h
  | some p => rw [hq] at h; exact ⟨p, rfl, by simpa using h⟩

theorem toNat_pred (n : Nat) : ((n : Int) - 1).toNat = n - 1 := by omega
theorem toNat_succ' (n : Nat) : ((n : Int) + 1).toNat = n + 1 := by omega
theorem toNat_zero' : (0 : Int).toNat = 0 := rfl
theorem toNat_one' : (1 : Int).toNat = 1 := rfl
theorem same_map {α : Type} {l : List α} {f : α → List V} {i : Nat} {p : α} {row : List V} (h1 : l[i]? = some p) (h : (l.map f)[i]? = some row) : row = f p := by
  rw [List.getElem?_map, h1] at h
  simpa using h.symm


/-! ### a contract out of a body -/
def oneK (vs : List V) (k : V → Prop) : Prop := match vs with | [v] => k v | _ => k (.tup vs)
/-- results: all that is one's own is handed out -/
def resK (T : Tab) (e : Env) (h : Hp) : List ResultVar → (List V → Prop) → Prop
  | [], k => k []
  | .tmp t :: r, k => lendK h 40 (e t) fun v _ => resK T e h r fun vs => k (v :: vs)
  | .cell a t :: r, k => match T t with
    | some ti => match e a with
      | .ptr b off => cellsK h b fun cs => partK ti.isAgg ti.cells cs off fun v => lendK h 40 v fun v _ => resK T e h r fun vs => k (v :: vs)
      | _ => False
    | none => False
/-- results, as they are -/
def resMK (T : Tab) (e : Env) (h : Hp) : List ResultVar → (List V → Prop) → Prop
  | [], k => k []
  | .tmp t :: r, k => forceK (e t) fun v => resMK T e h r fun vs => k (v :: vs)
  | .cell a t :: r, k => match T t with
    | some ti => match e a with
      | .ptr b off => cellsK h b fun cs => partK ti.isAgg ti.cells cs off fun v => forceK v fun v => resMK T e h r fun vs => k (v :: vs)
      | _ => False
    | none => False
/-- the value is what the contract says -/
def isK (v r : V) (p : Prop) : Prop := match r with
  | .alt b x y => (b = true → v = x ∧ p) ∧ (b = false → v = y ∧ p)
  | .tup us => match v with | .tup vs => eqsK vs us p | _ => False
  | r => v = r ∧ p
def isK1 (v r : V) : Prop := match r with
  | .alt b x y => (b = true → v = x) ∧ (b = false → v = y)
  | r => v = r
def retK (T : Tab) (rs : List ResultVar) (r : V) : Exit → Env → Hp → Prop
  | .ret, e, h => resK T e h rs fun vs => oneK vs fun v => isK1 v r
  | .normal, e, h => resK T e h rs fun vs => oneK vs fun v => isK1 v r
  | _, _, _ => False
def retM' (T : Tab) (rs : List ResultVar) (na : Nat) (r : V) (post : List Blk) (e : Env) (h : Hp) : Prop :=
  ∃ σ : List Nat, resMK T e h rs fun vs => oneK vs fun v => renK σ 60 r fun u => isK v u (hasBk h σ σ post (distinctB σ = true ∧ idB na σ = true))
def retM (T : Tab) (rs : List ResultVar) (na : Nat) (r : V) (post : List Blk) : Exit → Env → Hp → Prop
  | .ret, e, h => retM' T rs na r post e h
  | .normal, e, h => retM' T rs na r post e h
  | _, _, _ => False
def envOf : List V → Env
  | [], _ => .und
  | v :: _, 0 => v
  | _ :: r, n + 1 => envOf r n
def hp0 : Hp := fun _ => none
theorem run_loadVar_of {t : TypeId} {b off : Nat} {x : Value} (hx : (Instr.loadAt t (.pointer (some ⟨b, off, none⟩))).run P w = .ok x w) : (do loadVar t (← asAddr (.pointer (some ⟨b, off, none⟩))) : Sem Value).run P w = .ok x w := by
  simpa [Instr.loadAt, Instr.sureAddr, asAddr] using hx
def resOne (tmps : Array Value) : ResultVar → Sem Value
  | .tmp t => pure (tmps.getD t undef)
  | .cell p t => do loadVar t (← asAddr (tmps.getD p undef))
theorem run_res [Inhabited TabT] (hT : TabOk P T) {ti : TI} {t : TypeId} (hti : T t = some ti) (hs : St P cx h w R ρ) {p : Tmp} {b off : Nat} (hp : Rep w R ρ (.ptr b off) (a.tmps.getD p undef)) {k : V → Prop} (hk : cellsK h b fun cs => partK ti.isAgg ti.cells cs off k) : ∃ v y, k v ∧ Rep w R ρ v y ∧ (resOne a.tmps (.cell p t)).run P w = .ok y w := by
  have fin : ∀ {y : Value} {bb : Nat}, a.tmps.getD p undef = .pointer (some ⟨bb, off, none⟩) → (Instr.loadAt t (.pointer (some ⟨bb, off, none⟩))).run P w = .ok y w → (resOne a.tmps (.cell p t)).run P w = .ok y w := fun hx hy => by
    have hy' := run_loadVar_of hy
    simp only [resOne, hx, Sem.run_bind] at hy' ⊢
    exact hy'
  generalize hx : a.tmps.getD p undef = px at hp fin
  unfold cellsK at hk
  cases hp with
  | ptr hq =>
    rename_i bb
    split at hk
    · rename_i cs hb
      obtain ⟨v, hk, hv⟩ := partK_spec hk
      obtain ⟨xs0, t', hbb, hreps, hone⟩ := hs.brep b _ _ hq hb
      obtain ⟨y, hy, hry⟩ := run_loadVar_at (P := P) (w := w) (R := R) (ρ := ρ) (hT t ti hti) (b := bb) (o := 0) (off := off) (cs := cs) (f := fun j => xs0.getD j undef) (fun j hj => by
        rw [cell_of_block hbb]; simp [List.getD, List.getElem?_eq_getElem (show j < xs0.length by rw [← hreps.1]; exact hj)]) (fun j hj => by
        have hj' : j < xs0.length := by rw [← hreps.1]; exact hj
        simp [List.getD, List.getElem?_eq_getElem hj']; exact hone _ (List.getElem_mem hj')) (fun j v hv => by
        obtain ⟨y, hy, hr⟩ := hreps.get hv
        simp [List.getD, hy]; exact hr) hv
      rw [Nat.zero_add] at hy
      exact ⟨v, y, hk, hry, fin rfl hy⟩
    · rename_i u hb
      split at hk
      · obtain ⟨v, hk, hv⟩ := partK_spec hk
        obtain ⟨cs', hcs, hrd⟩ := hs.brep b _ _ hq hb
        cases hcs
        generalize hbz : (Value.pointer (some ⟨bb, 0, none⟩)) = z at hrd
        cases hrd with
        | elt f hR hf ho hrr =>
          cases hbz
          obtain ⟨y, hy, hry⟩ := run_loadVar_at (P := P) (w := w) (R := R) (ρ := rho0) (hT t ti hti) hf ho hrr hv
          simp only [Nat.zero_add] at hy
          exact ⟨v, y, hk, hry.mono (fun _ h => h) (fun _ _ => rfl) (fun k o h => by cases h), fin rfl hy⟩
      · exact hk.elim
    · exact hk.elim
theorem resK_spec [Inhabited TabT] (hT : TabOk P T) (hs : St P cx h w R ρ) (he : EnvRep N e a w R ρ) : ∀ (rs : List ResultVar) (k : List V → Prop), resK T e h rs k →
    ∃ vs xs, k vs ∧ Reps w (RA h ρ R) rho0 vs xs ∧ (rs.mapM (resOne a.tmps)).run P w = .ok xs w
  | [], k, hk => ⟨[], [], hk, .nil, by simp⟩
  | .tmp t :: r, k, hk => by
    obtain ⟨u, ks, hk, hu⟩ := lendK_spec h 40 (e t) _ hk
    obtain ⟨vs, xs, h1, h2, h3⟩ := resK_spec hT hs he r _ hk
    refine ⟨_, _, h1, .cons (hu P h (fun _ _ => rfl) cx w R ρ _ hs (he.rep t)) h2, ?_⟩
    rw [List.mapM_cons]
    simp [resOne, h3]
  | .cell p t :: r, k, hk => by
    simp only [resK] at hk
    split at hk
    · rename_i ti hti
      split at hk
      · rename_i b off hp
        have hpp := he.rep p
        rw [hp] at hpp
        obtain ⟨v, y, hk, hry, hrun⟩ := run_res hT hti hs hpp hk
        obtain ⟨u, ks, hk, hu⟩ := lendK_spec h 40 v _ hk
        obtain ⟨vs, xs, h1, h2, h3⟩ := resK_spec hT hs he r _ hk
        refine ⟨_, _, h1, .cons (hu P h (fun _ _ => rfl) cx w R ρ _ hs hry) h2, ?_⟩
        rw [List.mapM_cons, Sem.run_bind, hrun]
        simp [h3]
      · exact hk.elim
    · exact hk.elim
theorem resMK_spec [Inhabited TabT] (hT : TabOk P T) (hs : St P cx h w R ρ) (he : EnvRep N e a w R ρ) : ∀ (rs : List ResultVar) (k : List V → Prop), resMK T e h rs k →
    ∃ vs xs, k vs ∧ Reps w R ρ vs xs ∧ (rs.mapM (resOne a.tmps)).run P w = .ok xs w
  | [], k, hk => ⟨[], [], hk, .nil, by simp⟩
  | .tmp t :: r, k, hk => by
    obtain ⟨vs, xs, h1, h2, h3⟩ := resMK_spec hT hs he r _ (forceK_iff.1 hk)
    refine ⟨_, _, h1, .cons (he.rep t) h2, ?_⟩
    rw [List.mapM_cons]
    simp [resOne, h3]
  | .cell p t :: r, k, hk => by
    simp only [resMK] at hk
    split at hk
    · rename_i ti hti
      split at hk
      · rename_i b off hp
        have hpp := he.rep p
        rw [hp] at hpp
        obtain ⟨v, y, hk, hry, hrun⟩ := run_res hT hti hs hpp hk
        obtain ⟨vs, xs, h1, h2, h3⟩ := resMK_spec hT hs he r _ (forceK_iff.1 hk)
        refine ⟨_, _, h1, .cons hry h2, ?_⟩
        rw [List.mapM_cons, Sem.run_bind, hrun]
        simp [h3]
      · exact hk.elim
    · exact hk.elim
theorem run_results {fn : Func} {ys : List Value} (h3 : (fn.results.toList.mapM (resOne a.tmps)).run P w = .ok ys w) : (results fn a.tmps).run P w = .ok (if h : ys.length = 1 then ys[0] else .tuple ys.toArray) w := by
  have e1 : fn.results = fn.results.toList.toArray := by simp
  have e2 : results fn a.tmps = (do let vs ← fn.results.mapM (resOne a.tmps); pure (if h : vs.size = 1 then vs[0] else .tuple vs) : Sem Value) := by
    unfold results
    congr 1
  rw [e2, e1, List.mapM_toArray]
  simp [h3]
theorem oneK_spec {vs : List V} {ys : List Value} {k : V → Prop} (hk : oneK vs k) (hr : Reps w R ρ vs ys) : ∃ v, k v ∧ Rep w R ρ v (if h : ys.length = 1 then ys[0] else .tuple ys.toArray) := by
  unfold oneK at hk
  split at hk
  · rename_i v
    obtain ⟨y, rr, rfl, hy, hrr⟩ := hr.uncons
    have : rr = [] := List.eq_nil_of_length_eq_zero (by have := hrr.1; simpa using this.symm)
    subst this
    exact ⟨_, hk, hy⟩
  · rename_i hne
    have : ys.length ≠ 1 := fun hl => by
      have := hr.1
      rw [hl] at this
      obtain ⟨v, rfl⟩ := List.length_eq_one_iff.1 this
      exact hne v rfl
    rw [dif_neg this]
    exact ⟨_, hk, .tup hr.1 hr.2⟩
theorem isK_spec {v r : V} {p : Prop} {x : Value} (hk : isK v r p) (hr : Rep w R ρ v x) : Rep w R ρ r x ∧ p := by
  unfold isK at hk
  split at hk
  · rename_i b u u'
    cases b with
    | true => obtain ⟨h1, hp⟩ := hk.1 rfl; subst h1; exact ⟨.altT hr, hp⟩
    | false => obtain ⟨h1, hp⟩ := hk.2 rfl; subst h1; exact ⟨.altF hr, hp⟩
  · split at hk
    · obtain ⟨h1, hp⟩ := eqsK_spec hk; subst h1; exact ⟨hr, hp⟩
    · exact hk.elim
  · obtain ⟨h1, hp⟩ := hk; subst h1; exact ⟨hr, hp⟩
theorem isK1_spec {v r : V} {x : Value} (hk : isK1 v r) (hr : Rep w R ρ v x) : Rep w R ρ r x := by
  unfold isK1 at hk
  split at hk
  · rename_i b u u'
    cases b with
    | true => have h1 := hk.1 rfl; subst h1; exact .altT hr
    | false => have h1 := hk.2 rfl; subst h1; exact .altF hr
  · subst hk; exact hr
theorem envOf_lt : ∀ (args : List V) (t : Nat), t < args.length → args[t]? = some (envOf args t)
  | [], t, h => by simp at h
  | v :: r, 0, _ => rfl
  | v :: r, t + 1, h => by simpa [envOf] using envOf_lt r t (by simpa using h)
theorem envOf_ge : ∀ (args : List V) (t : Nat), args.length ≤ t → envOf args t = .und
  | [], t, _ => rfl
  | v :: r, 0, h => by simp at h
  | v :: r, t + 1, h => envOf_ge r t (by simpa using h)
theorem env_start {args : List V} {xs : List Value} {n : Nat} (hr : Reps w R ρ args xs) (hlen : args.length ≤ n) : EnvRep n (envOf args) { tmps := xs.toArray ++ Array.replicate (n - xs.toArray.size) undef, defers := [] } w R ρ := by
  have hsz := hr.1
  refine ⟨by simp; omega, fun t => ?_, rfl⟩
  simp only [Array.getD_eq_getD_getElem?]
  rcases Nat.lt_or_ge t args.length with h1 | h1
  · have h2 := envOf_lt args t h1
    have h3 : t < xs.length := by omega
    rw [Array.getElem?_append_left (by simpa using h3)]
    simp only [List.getElem?_toArray, List.getElem?_eq_getElem h3, Option.getD_some]
    exact hr.2 t _ _ h2 (List.getElem?_eq_getElem h3)
  · rw [envOf_ge args t h1, Array.getElem?_append_right (by simp; omega)]
    simp only [Array.getElem?_replicate]
    split <;> exact .und
theorem run_enter {f : FuncId} {fn : Func} {c : Code} (hf : P.funcs[f]? = some fn) (hname : (fn.name == "runtime.NumGoroutine") = false) (hb : fn.body = some c) (args : Array Value) (w : World) : (callFunc f args).run P w = .ok (.enter f args) w := by
  have h1 : fn.name ≠ "runtime.NumGoroutine" := by simpa using hname
  simp [callFunc, hf, h1, hb]
/-- A CONTRACT OUT OF A BODY -/
theorem Fn.mk' [Inhabited TabT] (B : Base P T) {f : FuncId} {fn : Func} {c : Code} {args : List V} {r : V} (hf : P.funcs[f]? = some fn) (hname : (fn.name == "runtime.NumGoroutine") = false) (hb : fn.body = some c) (hlen : Nat.ble args.length fn.ntmps = true)
    (k : AW P fn.ntmps 0 c (envOf args) hp0 (retK T fn.results.toList r)) : Fn P f args r := by
  refine ⟨fun w R xs hR hgl hr => ?_⟩
  rw [run_enter hf hname hb]
  show Calls P f xs.toArray w _
  refine calls_of_wp hf hb ?_
  let cx : Cx := ⟨w, R, fun _ => False⟩
  have hs : St P cx hp0 w R rho0 := ⟨⟨rfl, rfl, rfl, Nat.le_refl _, fun _ _ _ => rfl⟩, fun k o b hk => (by cases hk), fun k k' o o' n _ _ _ hk => (by cases hk), fun k o n _ hk => (by cases hk), hR, fun n hn => .inl hn, hgl⟩
  refine wp_mono (k.run cx rho0 R rho0 _ w (fun _ _ => rfl) hs (fun k o hk => by cases hk) (fun k o hk => by cases hk) (env_start hr (Nat.le_of_ble_eq_true hlen))) fun ex a' w' ⟨e', h', R', ρ', q, s1, s2, s3, s4⟩ => ?_
  have fin : (resK T e' h' fn.results.toList fun vs => oneK vs fun v => isK1 v r) → a'.defers = [] ∧ ∃ v, (results fn a'.tmps).run P w' = .ok v w' ∧ ∃ x, Ending.returned v = .returned x ∧ Below w.heap.size w w' ∧ ∃ R', (∀ n, R n → R' n) ∧ (∀ n, R' n → R n ∨ (w.heap.size ≤ n ∧ n < w'.heap.size)) ∧ Rep w' R' rho0 r x := fun hq => by
    obtain ⟨vs, ys, h1, h2, h3⟩ := resK_spec B.tab s1 s4 _ _ hq
    obtain ⟨v, h4, h5⟩ := oneK_spec h1 h2
    refine ⟨s4.defers, _, run_results h3, _, rfl, ⟨s1.keeps.os, s1.keeps.tape, s1.keeps.output, s1.keeps.size, fun n hn => s1.keeps.block n hn id⟩, fun n => R n ∨ (w.heap.size ≤ n ∧ n < w'.heap.size), fun n hn => .inl hn, fun n hn => hn, (isK1_spec h4 h5).mono (fun n hn => ?_) (fun _ _ => rfl) (fun _ _ h => h)⟩
    have hlt := RA.lt s1 n hn
    rcases hn with hn | ⟨b, o, l, ho, hon⟩
    · rcases s1.rold n hn with h4 | h4 | h4
      · exact .inl h4
      · exact .inr ⟨h4, hlt⟩
      · exact h4.elim
    · rcases (s1.mine b o n l ho hon).2.2 with h4 | h4
      · exact .inr ⟨h4, hlt⟩
      · exact h4.elim
  cases ex <;> try exact q.elim
  · exact fin q
  · exact fin q
/-- A CONTRACT OF A CALL THAT WRITES, OUT OF A BODY -/
theorem FnM.mk' [Inhabited TabT] (B : Base P T) {f : FuncId} {fn : Func} {c : Code} {args : List V} {pre post : List Blk} {r : V} (hf : P.funcs[f]? = some fn) (hname : (fn.name == "runtime.NumGoroutine") = false) (hb : fn.body = some c) (hlen : Nat.ble args.length fn.ntmps = true) {na : Nat} (hna : lenN pre = na)
    (k : AW P fn.ntmps na c (envOf args) (hpL pre) (retM T fn.results.toList na r post)) : FnM P f args pre r post := by
  refine ⟨fun cx w R ρ xs hs0 ht hr => ?_⟩
  rw [lenN_eq] at hna
  rw [run_enter hf hname hb]
  show Calls P f xs.toArray w _
  refine calls_of_wp hf hb ?_
  let M : Nat → Prop := fun n => ∃ (k : Nat) (o : RObj), Live (hpL pre) k ∧ ρ k = some o ∧ o.own = some n
  let cc : Cx := ⟨w, R, M⟩
  have hs : St P cc (hpL pre) w R ρ := ⟨⟨rfl, rfl, rfl, Nat.le_refl _, fun _ _ _ => rfl⟩, hs0.brep, hs0.apart, fun i o n l hi hn => ⟨(hs0.mine i o n l hi hn).1, (hs0.mine i o n l hi hn).2.1, .inr ⟨i, o, l, hi, hn⟩⟩, hs0.rlt, fun n hn => .inl hn, hs0.glob⟩
  have hM : ∀ n, M n → ¬ R n ∧ n < w.heap.size ∧ (cx.w0.heap.size ≤ n ∨ cx.M n) := fun n ⟨k, o, q1, q2, q3⟩ => hs0.mine k o n q1 q2 q3
  have hnone : ∀ k, na ≤ k → ρ k = none := fun k hk => by
    cases hq : ρ k with
    | none => rfl
    | some o => exact absurd (ht k o hq) (by rw [hpL_get, List.getElem?_eq_none (by omega)]; simp)
  refine wp_mono (k.run cc ρ R ρ _ w hnone hs ht (fun k o h => h) (env_start hr (Nat.le_of_ble_eq_true hlen))) fun ex a' w' ⟨e', h', R', ρ', q, s1, s2, s3, s4⟩ => ?_
  have fin : retM' T fn.results.toList na r post e' h' → a'.defers = [] ∧ ∃ v, (results fn a'.tmps).run P w' = .ok v w' ∧ ∃ x, Ending.returned v = .returned x ∧ ∃ R' ρ', St P cx (hpL post) w' R' ρ' ∧ There (hpL post) ρ' ∧ Ext w R ρ w' R' ρ' ∧ Rep w' R' ρ' r x := fun ⟨σ, hq⟩ => by
    obtain ⟨vs, ys, h1, h2, h3⟩ := resMK_spec B.tab s1 s4 _ _ hq
    obtain ⟨v, h4, h5⟩ := oneK_spec h1 h2
    obtain ⟨u, h6, _, hu⟩ := renK_spec σ 60 r _ h4
    obtain ⟨h7, h8⟩ := isK_spec h6 h5
    obtain ⟨h9, h10, h11⟩ := hasBk_spec h8
    rw [hu] at h7
    obtain ⟨t1, t2⟩ := s1.via (distinct_spec h10) h9
    have hz0 := hs0.keeps.size
    have hzz : w.heap.size ≤ w'.heap.size := t1.keeps.size
    have hblk : ∀ n, n < w.heap.size → ¬ M n → w'.heap[n]? = w.heap[n]? := fun n hn hm => t1.keeps.block n hn hm
    have hRM : ∀ n, R n → ¬ M n := fun n hn hm => (hM n hm).1 hn
    refine ⟨s4.defers, _, run_results h3, _, rfl, fun n => R n ∨ R' n, ρ'.via σ, ⟨⟨t1.keeps.os.trans hs0.keeps.os, t1.keeps.tape.trans hs0.keeps.tape, t1.keeps.output.trans hs0.keeps.output, Nat.le_trans hz0 hzz, fun n hn hm => ?_⟩, fun i o b hi hb => (t1.brep i o b hi hb).keep ⟨fun _ h => .inr h, fun _ _ => rfl, fun _ _ h => h⟩ (fun _ _ _ => rfl), t1.apart, fun i o n l hi hn => ?_, fun n hn => ?_, fun n hn => ?_, ⟨fun g cs hg => (t1.glob.1 g cs hg).mono (fun _ h => .inr h) (fun _ _ => rfl) (fun _ _ h => h), fun g a hg => ⟨.inr (t1.glob.2 g a hg).1, (t1.glob.2 g a hg).2⟩⟩⟩, t2, ⟨fun _ h => .inl h, fun n hn => hblk n (hs0.rlt n hn) (hRM n hn), fun i o hi => ?_⟩, (Rep.unren σ 60 r _ h7).mono (fun _ h => .inr h) (fun _ _ => rfl) (fun _ _ h => h)⟩
    · rw [hblk n (by omega) (fun hh => by rcases (hM n hh).2.2 with q | q; omega; exact hm q)]
      exact hs0.keeps.block n hn hm
    · obtain ⟨m1, m2, m3⟩ := t1.mine i o n l hi hn
      refine ⟨fun hh => ?_, m2, ?_⟩
      · rcases hh with hh | hh
        · rcases m3 with m3 | m3
          · have h1 : w.heap.size ≤ n := m3
            have := hs0.rlt n hh; omega
          · exact hRM n hh m3
        · exact m1 hh
      · rcases m3 with m3 | m3
        · have h1 : w.heap.size ≤ n := m3
          exact .inl (by omega)
        · exact (hM n m3).2.2
    · rcases hn with hn | hn
      · have := hs0.rlt n hn; omega
      · exact t1.rlt n hn
    · rcases hn with hn | hn
      · exact hs0.rold n hn
      · rcases t1.rold n hn with q | q | q
        · exact hs0.rold n q
        · have h1 : w.heap.size ≤ n := q
          exact .inr (.inl (by omega))
        · exact .inr (hM n q).2.2
    · have hlt : i < na := by
        rcases Nat.lt_or_ge i na with h1 | h1
        · exact h1
        · rw [hnone i h1] at hi; cases hi
      simp only [Rho.via, idB_spec h11 i hlt]
      exact s3 i o hi
  cases ex <;> try exact q.elim
  · exact fin q
  · exact fin q
theorem Fn.weaken [Inhabited TabT] {f : FuncId} {args args' : List V} {r : V} (h : Fn P f args' r) (hr : ∀ (w : World) (R : Nat → Prop) (xs : List Value), Reps w R rho0 args xs → Reps w R rho0 args' xs) : Fn P f args r :=
  ⟨fun w R xs hR hgl hx => h.run w R xs hR hgl (hr w R xs hx)⟩
theorem Fn.nil0 [Inhabited TabT] {f : FuncId} {b : List V} {r : V} (h : Fn P f (.sl [] :: b) r) : Fn P f (.nils :: b) r := h.weaken fun w R xs hx => by
  obtain ⟨x, rr, rfl, h1, h2⟩ := hx.uncons
  rw [h1.of_nils]
  exact .cons .slnil h2
theorem Fn.nil1 [Inhabited TabT] {f : FuncId} {a : V} {b : List V} {r : V} (h : Fn P f (a :: .sl [] :: b) r) : Fn P f (a :: .nils :: b) r := h.weaken fun w R xs hx => by
  obtain ⟨x, rr, rfl, h1, h2⟩ := hx.uncons
  obtain ⟨y, rr, rfl, h3, h4⟩ := h2.uncons
  rw [h3.of_nils]
  exact .cons h1 (.cons .slnil h4)
end
end Go.Proofs.YthchmjdgepbjpaaDoor

-- tabvar