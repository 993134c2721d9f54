/-
  Walks by abstract values, of whole bodies: the rules for each form of code; a loop; a contract out of a body. No conditions but closed tests.
-/
import Derived.Test.YthcbffejjkmmfaaAbsDraw
namespace Go.Proofs.Ythcbffejjkmmfaa
open Go.RowKit
set_option linter.unusedSimpArgs false
set_option linter.unusedVariables false

/-- the code, begun where the walk stands, comes to Q -/
structure AW (P : Program) (N : Nat) (c : Code) (e : Env) (h : Hp) (Q : Exit → Env → Hp → Prop) : Prop where
  run : ∀ cx R ρ a w, St P cx h w R ρ → There h ρ → EnvRep N e a w R ρ → c.wp P (Lift P N cx Q) a w
/-- what a seat's program and its table are good for -/
structure Base (P : Program) (T : Tab) : Prop where
  follows : P.follows .mixedOrders = true
  tab : TabOk P T

def regB (N : Nat) (l : List Oper) (d : Bool) : Bool := (l.all fun o => match o.dst with | some t => Nat.blt t N | none => true) && (!d || drawB l (tailN 0 l))

section
variable {P : Program} {N : Nat} {e : Env} {h : Hp} {Q : Exit → Env → Hp → Prop} {T : Tab}

theorem Lift.mono {cx : Cx} {Q Q' : Exit → Env → Hp → Prop} (hq : ∀ ex e h, Q ex e h → Q' ex e h) : ∀ ex a w, Lift P N cx Q ex a w → Lift P N cx Q' ex a w :=
  fun ex a w ⟨e, h, R, ρ, q, r⟩ => ⟨e, h, R, ρ, hq _ _ _ q, r⟩
theorem AW.seq {x y : Code} (k : AW P N x e h (fun ex e h => match ex with | .normal => AW P N y e h Q | ex => Q ex e h)) : AW P N (.seq x y) e h Q :=
  ⟨fun cx R ρ a w hs ht he => wp_seq (wp_mono (k.run cx R ρ a w hs ht he) fun ex a w ⟨e, h, R, ρ, q, s, t, u⟩ => by
    cases ex with
    | normal => exact (show AW P N y e h Q from q).run cx R ρ a w s t u
    | _ => exact ⟨e, h, R, ρ, q, s, t, u⟩)⟩
def condK (v : V) (p q : Prop) : Prop := match v with | .bool b => Br b p q | _ => False
theorem AW.cond {c : Operand} {x y : Code} (k : condK (e.rd c) (AW P N x e h Q) (AW P N y e h Q)) : AW P N (.cond c x y) e h Q := by
  refine ⟨fun cx R ρ a w hs ht he => ?_⟩
  unfold condK at k
  split at k
  · rename_i b hb
    have h1 := he.rd c
    rw [hb] at h1
    rcases Br.cases k with ⟨rfl, k'⟩ | ⟨rfl, k'⟩
    · exact wp_cond h1.of_bool (k'.run cx R ρ a w hs ht he)
    · exact wp_cond h1.of_bool (k'.run cx R ρ a w hs ht he)
  · exact k.elim
theorem AW.block {id : Nat} {c : Code} (k : AW P N c e h (fun ex e h => match ex with | .exit j => (match Nat.beq j id with | true => Q .normal e h | false => Q (.exit j) e h) | ex => Q ex e h)) : AW P N (.block id c) e h Q :=
  ⟨fun cx R ρ a w hs ht he => wp_block (wp_mono (k.run cx R ρ a w hs ht he) fun ex a w ⟨e, h, R, ρ, q, s, t, u⟩ => by
    cases ex with
    | exit j =>
      simp only at q
      simp only [Exit.inBlock]
      by_cases hj : j = id
      · subst hj
        rw [if_pos rfl]
        simp only [Nat.beq_refl] at q
        exact ⟨e, h, R, ρ, q, s, t, u⟩
      · rw [if_neg hj]
        rw [show Nat.beq j id = false from by rw [← Bool.not_eq_true]; intro hh; exact hj (Nat.eq_of_beq_eq_true hh)] at q
        exact ⟨e, h, R, ρ, q, s, t, u⟩
    | _ => exact ⟨e, h, R, ρ, q, s, t, u⟩)⟩
theorem AW.exit {id : Nat} (k : Q (.exit id) e h) : AW P N (.exit id) e h Q := ⟨fun cx R ρ a w hs ht he => wp_exit ⟨e, h, R, ρ, k, hs, ht, he⟩⟩
theorem AW.ret (k : Q .ret e h) : AW P N .ret e h Q := ⟨fun cx R ρ a w hs ht he => wp_ret ⟨e, h, R, ρ, k, hs, ht, he⟩⟩
theorem AW.skip (k : Q .normal e h) : AW P N .skip e h Q := ⟨fun cx R ρ a w hs ht he => wp_skip ⟨e, h, R, ρ, k, hs, ht, he⟩⟩
theorem AW.region (B : Base P T) {id : Nat} {l : List Oper} {d : Bool} (hb : regB N l d = true) (k : match d with | true => drawK (Fn P) T l (1000 * id) e h (Q .normal) | false => opsK (Fn P) T l (1000 * id) l e h (Q .normal)) : AW P N (.region id l.toArray d) e h Q := by
  simp only [regB, Bool.and_eq_true] at hb
  obtain ⟨h1, h2⟩ := hb
  have hN : ∀ o ∈ l, ∀ t, o.dst = some t → t < N := fun o ho t hd => by
    have := List.all_eq_true.1 h1 o ho
    rw [hd] at this
    simpa [Nat.blt_eq] using this
  refine ⟨fun cx R ρ a w hs ht he => ?_⟩
  cases d with
  | false =>
    refine wp_region ?_
    have := ops_seq (cx := cx) B.tab (fun _ _ _ h => h) hN l 0 (1000 * id) e h a w R ρ (by simp) hs ht he k
    simpa [List.range_eq_range'] using this
  | true =>
    exact region_draw B.follows B.tab (fun _ _ _ h => h) hN (by simpa using h2) hs ht he k

/-! ### where the walk begins anew: what is known of some slots, of some blocks -/
structure Inv where
  env : List (Nat × V)
  own : List (Nat × Nat × TypeId × List (List V)) := []
  cells : List (Nat × List V) := []
def envL : List (Nat × V) → Env
  | [], _ => .any
  | (t, v) :: r, s => match Nat.beq s t with | true => v | false => envL r s
def envO : List (Nat × Nat × TypeId × List (List V)) → Env → Env
  | [], e, s => e s
  | (t, k, _, _) :: r, e, s => match Nat.beq s t with | true => .own k | false => envO r e s
def hpO : List (Nat × Nat × TypeId × List (List V)) → Hp → Hp
  | [], h, s => h s
  | (_, k, el, xs) :: r, h, s => match Nat.beq s k with | true => some (.rows el xs) | false => hpO r h s
def hpC : List (Nat × List V) → Hp
  | [], _ => none
  | (k, cs) :: r, s => match Nat.beq s k with | true => some (.cells cs) | false => hpC r s
def Inv.en (I : Inv) : Env := envO I.own (envL I.env)
def Inv.hp (I : Inv) : Hp := hpO I.own (hpC I.cells)
/-- names no block of one's own, or one that is kept -/
def okV (ck : List Nat) (v : V) : Bool := match v with
  | .ptr k _ => ck.any (Nat.beq k)
  | v => V.kl 40 v
def fitsEnv (e : Env) (ck : List Nat) : List (Nat × V) → Prop
  | [] => True
  | (t, v) :: r => (e t = v ∧ okV ck v = true) ∧ fitsEnv e ck r
def fitsOwn (P : Program) (e : Env) (h : Hp) (used : List Nat) : List (Nat × Nat × TypeId × List (List V)) → Prop
  | [] => True
  | (t, _, el, xs) :: r => (∃ k0 ys, e t = .own k0 ∧ h k0 = some (.rows el ys) ∧ ys = xs ∧ used.any (Nat.beq k0) = false ∧ fitsOwn P e h (k0 :: used) r) ∨ (e t = .nils ∧ xs = [] ∧ (∃ E, RowInfo P el E) ∧ fitsOwn P e h used r)
def fitsCells (h : Hp) (ck : List Nat) : List (Nat × List V) → Prop
  | [] => True
  | (k, cs) :: r => (∃ cs0, h k = some (.cells cs0) ∧ cs0 = cs ∧ cs.all (okV ck) = true) ∧ fitsCells h ck r
def nodupB : List Nat → Bool
  | [] => true
  | k :: r => !r.any (Nat.beq k) && nodupB r
/-- the walk's state is one of which I is true -/
structure Fits (P : Program) (e : Env) (h : Hp) (I : Inv) : Prop where
  nodup : nodupB (I.own.map (·.2.1) ++ I.cells.map (·.1)) = true
  env : fitsEnv e (I.cells.map (·.1)) I.env
  own : fitsOwn P e h [] I.own
  cells : fitsCells h (I.cells.map (·.1)) I.cells

variable {w : World} {R : Nat → Prop} {ρ : Rho} {cx : Cx} {a : Act}
theorem beqN {a b : Nat} : Nat.beq a b = true ↔ a = b := ⟨Nat.eq_of_beq_eq_true, fun h => by subst h; exact Nat.beq_refl a⟩
theorem anyN {k : Nat} {l : List Nat} : l.any (Nat.beq k) = true ↔ k ∈ l := by
  rw [List.any_eq_true]
  exact ⟨fun ⟨x, h1, h2⟩ => by rw [beqN.1 h2]; exact h1, fun h => ⟨k, h, beqN.2 rfl⟩⟩
theorem nodupB_spec : ∀ {l : List Nat}, nodupB l = true → l.Nodup
  | [], _ => List.nodup_nil
  | k :: r, h => by
    simp only [nodupB, Bool.and_eq_true] at h
    refine List.nodup_cons.2 ⟨fun hk => ?_, nodupB_spec h.2⟩
    have := anyN.2 hk
    rw [this] at h; simp at h
theorem hpC_mem {cells : List (Nat × List V)} {k : Nat} {b : Blk} (h : hpC cells k = some b) : ∃ cs, (k, cs) ∈ cells ∧ b = .cells cs := by
  induction cells with
  | nil => cases h
  | cons p r ih =>
    obtain ⟨k', cs⟩ := p
    simp only [hpC] at h
    split at h
    · rename_i hb; cases h; exact ⟨cs, by rw [beqN.1 hb]; exact List.mem_cons_self, rfl⟩
    · obtain ⟨cs', h1, h2⟩ := ih h; exact ⟨cs', List.mem_cons_of_mem _ h1, h2⟩
theorem hpC_of {cells : List (Nat × List V)} {k : Nat} (h : k ∈ cells.map (·.1)) : hpC cells k ≠ none := by
  induction cells with
  | nil => cases h
  | cons p r ih =>
    obtain ⟨k', cs⟩ := p
    simp only [hpC]
    split
    · simp
    · rename_i hb
      refine ih ?_
      simp only [List.map_cons, List.mem_cons] at h
      rcases h with rfl | h
      · rw [beqN.2 rfl] at hb; cases hb
      · exact h
theorem fitsCells_mem {h : Hp} {ck : List Nat} : ∀ {cells : List (Nat × List V)}, fitsCells h ck cells → ∀ k cs, (k, cs) ∈ cells → h k = some (.cells cs) ∧ ∀ c ∈ cs, okV ck c = true
  | [], _, k, cs, hm => by cases hm
  | (k', cs') :: r, hf, k, cs, hm => by
    obtain ⟨⟨cs0, h1, rfl, h2⟩, h3⟩ := hf
    rcases List.mem_cons.1 hm with hm | hm
    · cases hm; exact ⟨h1, fun c hc => List.all_eq_true.1 h2 c hc⟩
    · exact fitsCells_mem h3 k cs hm
theorem okV_rep {ck : List Nat} {v : V} {x : Value} {ρ' : Rho} (hv : okV ck v = true) (hr : Rep w R ρ v x) (hk : ∀ k o, k ∈ ck → ρ k = some o → ρ' k = some o) : Rep w R ρ' v x := by
  have kl : V.kl 40 v = true → Rep w R ρ' v x := fun h => (hr.kl 40 h).mono (fun _ h => h) (fun _ _ => rfl) (fun k o h => by cases h)
  unfold okV at hv
  split at hv
  · cases hr with
    | ptr hp => exact .ptr (hk _ _ (anyN.1 hv) hp)
  · exact kl hv

/-- the kept blocks of cells alone -/
theorem fits_cells {cells : List (Nat × List V)} (hf : fitsCells h (cells.map (·.1)) cells) (hs : St P cx h w R ρ) (ht : There h ρ) : ∃ ρ', St P cx (hpC cells) w R ρ' ∧ There (hpC cells) ρ' ∧ (∀ k o, k ∈ cells.map (·.1) → ρ k = some o → ρ' k = some o) ∧ (∀ k o, ρ' k = some o → ρ k = some o ∧ k ∈ cells.map (·.1)) := by
  have hmem : ∀ k b, hpC cells k = some b → h k = some b ∧ k ∈ cells.map (·.1) := fun k b hb => by
    obtain ⟨cs, h1, rfl⟩ := hpC_mem hb
    exact ⟨(fitsCells_mem hf k cs h1).1, List.mem_map.2 ⟨_, h1, rfl⟩⟩
  have hlive : ∀ k, Live (hpC cells) k → Live h k := fun k ⟨b, hb, hd⟩ => ⟨b, (hmem k b hb).1, hd⟩
  classical
  refine ⟨fun k => if hpC cells k = none then none else ρ k, ⟨hs.keeps, fun k o b hk hb => ?_, fun k k' o o' n hne l l' hk hk' => ?_, fun k o n l hk => ?_, hs.rlt, hs.rold⟩, fun k o hk => ?_, fun k o hk ho => ?_, fun k o hk => ?_⟩
  · simp only [hb] at hk
    obtain ⟨cs, h1, rfl⟩ := hpC_mem hb
    obtain ⟨h2, h3⟩ := fitsCells_mem hf k cs h1
    have hbr := hs.brep k o _ hk h2
    cases o with
    | hdr v => exact hbr
    | blk n =>
      obtain ⟨xs, t, q1, q2, q3⟩ := hbr
      refine ⟨xs, t, q1, ⟨q2.1, fun i v x hv hx => okV_rep (h3 v (List.mem_of_getElem? hv)) (q2.2 i v x hv hx) fun kk oo hkk hoo => ?_⟩, q3⟩
      simp only [if_neg (hpC_of hkk)]
      exact hoo
  · split at hk
    · cases hk
    · split at hk'
      · cases hk'
      · exact hs.apart k k' o o' n hne (hlive k l) (hlive k' l') hk hk'
  · split at hk
    · cases hk
    · exact hs.mine k o n (hlive k l) hk
  · dsimp only at hk
    split at hk
    · cases hk
    · assumption
  · simp only [if_neg (hpC_of hk)]; exact ho
  · dsimp only at hk
    split at hk
    · cases hk
    · rename_i hne
      cases hq : hpC cells k with
      | none => exact absurd hq hne
      | some b => exact ⟨hk, (hmem k b hq).2⟩

/-- a block is given a number, or another number -/
theorem St.add {hh : Hp} (hs : St P cx hh w R ρ) (ht : There hh ρ) {k : Nat} (hk : hh k = none) {o : RObj} {b : Blk} (hb : BRep P w R (ρ.set k o) o b) (hd : ∀ k' o' n, Live hh k' → ρ k' = some o' → o.own = some n → o'.own ≠ some n) (hm : ∀ n, o.own = some n → ¬ R n ∧ n < w.heap.size ∧ (cx.w0.heap.size ≤ n ∨ cx.M n)) :
    St P cx (hh.set k (some b)) w R (ρ.set k o) ∧ There (hh.set k (some b)) (ρ.set k o) ∧ Ext w R ρ w R (ρ.set k o) := by
  have hc := ht.free hk
  have e : Ext w R ρ w R (ρ.set k o) := ⟨fun _ h => h, fun _ _ => rfl, fun j oj hj => by
    unfold Rho.set; rw [if_neg]; exact hj
    intro he; subst he; rw [hc] at hj; cases hj⟩
  have hlive : ∀ j, j ≠ k → Live (hh.set k (some b)) j → Live hh j := fun j hj ⟨bb, hbb, hdd⟩ => ⟨bb, by rw [Hp.set_other hh _ hj] at hbb; exact hbb, hdd⟩
  have hrho : ∀ j oj, (ρ.set k o) j = some oj → (j = k ∧ oj = o) ∨ (j ≠ k ∧ ρ j = some oj) := fun j oj hj => by
    unfold Rho.set at hj
    split at hj
    · rename_i he; simp at hj; exact .inl ⟨he, hj.symm⟩
    · rename_i he; exact .inr ⟨he, hj⟩
  refine ⟨⟨hs.keeps, fun j oj bb hj hbb => ?_, fun j j' oj oj' n hne l l' hj hj' hn => ?_, fun j oj n l hj hn => ?_, hs.rlt, hs.rold⟩, fun j oj hj => ?_, e⟩
  · rcases hrho j oj hj with ⟨rfl, rfl⟩ | ⟨j1, j2⟩
    · rw [Hp.set_same] at hbb; cases hbb; exact hb
    · rw [Hp.set_other hh _ j1] at hbb
      exact (hs.brep j oj bb j2 hbb).keep e fun n _ _ => rfl
  · rcases hrho j oj hj with ⟨rfl, rfl⟩ | ⟨j1, j2⟩ <;> rcases hrho j' oj' hj' with ⟨rfl, rfl⟩ | ⟨j1', j2'⟩
    · exact absurd rfl hne
    · exact hd j' oj' n (hlive _ j1' l') j2' hn
    · intro hn'; exact hd j oj n (hlive _ j1 l) j2 hn' hn
    · exact hs.apart j j' oj oj' n hne (hlive _ j1 l) (hlive _ j1' l') j2 j2' hn
  · rcases hrho j oj hj with ⟨rfl, rfl⟩ | ⟨j1, j2⟩
    · exact hm n hn
    · exact hs.mine j oj n (hlive _ j1 l) j2 hn
  · rcases hrho j oj hj with ⟨rfl, rfl⟩ | ⟨j1, j2⟩
    · rw [Hp.set_same]; simp
    · rw [Hp.set_other hh _ j1]; exact ht j oj j2
theorem hpO_cons {t k : Nat} {el : TypeId} {xs : List (List V)} {r : List (Nat × Nat × TypeId × List (List V))} {hh : Hp} : hpO ((t, k, el, xs) :: r) hh = (hpO r hh).set k (some (.rows el xs)) := by
  funext s
  simp only [hpO, Hp.set]
  cases s.beq k <;> rfl
theorem hpO_none {hh : Hp} {k : Nat} : ∀ {own : List (Nat × Nat × TypeId × List (List V))}, k ∉ own.map (·.2.1) → hpO own hh k = hh k
  | [], _ => rfl
  | (t, k', el, xs) :: r, hk => by
    simp only [List.map_cons, List.mem_cons, not_or] at hk
    rw [hpO_cons, Hp.set_other _ _ hk.1]
    exact hpO_none hk.2
theorem fits_own {cells : List (Nat × List V)} (hfc : fitsCells h (cells.map (·.1)) cells) (hs : St P cx h w R ρ) (ht : There h ρ) (he : EnvRep N e a w R ρ) : ∀ (own : List (Nat × Nat × TypeId × List (List V))) (used : List Nat), (own.map (·.2.1) ++ cells.map (·.1)).Nodup → fitsOwn P e h used own →
    ∃ ρ', St P cx (hpO own (hpC cells)) w R ρ' ∧ There (hpO own (hpC cells)) ρ' ∧ (∀ k o, k ∈ cells.map (·.1) → ρ k = some o → ρ' k = some o) ∧ (∀ t k el xs, (t, k, el, xs) ∈ own → Rep w R ρ' (.own k) (a.tmps.getD t undef)) ∧
      (∀ k o n, ρ' k = some o → o.own = some n → ∃ k0, ρ k0 = some o ∧ Live h k0 ∧ (k0 ∈ cells.map (·.1) ∨ (k0 ∉ used ∧ ∃ el ys, h k0 = some (.rows el ys))))
  | [], used, hnd, hf => by
    obtain ⟨ρ', h1, h2, h3, h4⟩ := fits_cells hfc hs ht
    refine ⟨ρ', h1, h2, h3, fun t k el xs hm => (by cases hm), fun k o n hk hn => ?_⟩
    obtain ⟨q1, q2⟩ := h4 k o hk
    obtain ⟨⟨k', cs⟩, q3, rfl⟩ := List.mem_map.1 q2
    exact ⟨k', q1, ⟨_, (fitsCells_mem hfc k' cs q3).1, by simp⟩, .inl q2⟩
  | (t, k, el, xs) :: r, used, hnd, hf => by
    simp only [List.map_cons, List.cons_append, List.nodup_cons, List.mem_append, not_or] at hnd
    obtain ⟨⟨hk1, hk2⟩, hnd'⟩ := hnd
    have hkn : hpO r (hpC cells) k = none := by
      rw [hpO_none hk1]
      cases hq : hpC cells k with
      | none => rfl
      | some b => obtain ⟨cs, h1, _⟩ := hpC_mem hq; exact absurd (List.mem_map.2 ⟨_, h1, rfl⟩) hk2
    rw [hpO_cons]
    rcases hf with ⟨k0, ys, f1, f2, rfl, f4, f5⟩ | ⟨f1, rfl, ⟨E, f3⟩, f4⟩
    · obtain ⟨ρ', s1, s2, s3, s4, s5⟩ := fits_own hfc hs ht he r (k0 :: used) hnd' f5
      have hslot := he.rep t
      rw [f1] at hslot
      generalize hx : a.tmps.getD t undef = x at hslot
      have hlk : Live h k0 := ⟨_, f2, by simp⟩
      cases hslot with
      | own hp =>
        obtain ⟨q1, q2, q3⟩ := s1.add s2 hkn (o := .hdr x) (b := .rows el ys) (by
            obtain ⟨E', fl, ho⟩ := hs.brep k0 _ _ hp f2
            exact ⟨E', fl, ho⟩) (fun k' o' n l hk' hn hn' => by
            obtain ⟨k00, g1, g2, g3⟩ := s5 k' o' n hk' hn'
            refine hs.apart k0 k00 _ o' n ?_ hlk g2 hp g1 hn hn'
            rintro rfl
            rcases g3 with g3 | ⟨g3, _⟩
            · obtain ⟨⟨kk, cs⟩, g4, g5⟩ := List.mem_map.1 g3
              simp only at g5; subst g5
              rw [(fitsCells_mem hfc _ cs g4).1] at f2; cases f2
            · exact g3 List.mem_cons_self) (fun n hn => hs.mine k0 _ n hlk hp hn)
        refine ⟨_, q1, q2, fun kk o hkk ho => q3.rho kk o (s3 kk o hkk ho), fun t' k' el' xs' hm => ?_, fun kk o n hkk hn => ?_⟩
        · rcases List.mem_cons.1 hm with hm | hm
          · cases hm
            refine .own ?_
            rw [hx]
            simp [Rho.set]
          · exact (s4 t' k' el' xs' hm).ext q3
        · unfold Rho.set at hkk
          split at hkk
          · cases hkk
            exact ⟨k0, hp, hlk, .inr ⟨fun hu => (by rw [anyN.2 hu] at f4; cases f4), _, _, f2⟩⟩
          · obtain ⟨k00, g1, g2, g3⟩ := s5 kk o n hkk hn
            refine ⟨k00, g1, g2, g3.imp id fun ⟨g4, g5⟩ => ⟨fun hu => g4 (List.mem_cons_of_mem _ hu), g5⟩⟩
    · obtain ⟨ρ', s1, s2, s3, s4, s5⟩ := fits_own hfc hs ht he r used hnd' f4
      have hslot := he.rep t
      rw [f1] at hslot
      obtain ⟨q1, q2, q3⟩ := s1.add s2 hkn (o := .hdr (.slice none 0 0)) (b := .rows el []) ⟨E, [], OwnRows.nil w R f3⟩ (fun k' o' n l hk' hn => by simp [RObj.own, Value.ownBlock] at hn) (fun n hn => by simp [RObj.own, Value.ownBlock] at hn)
      refine ⟨_, q1, q2, fun kk o hkk ho => q3.rho kk o (s3 kk o hkk ho), fun t' k' el' xs' hm => ?_, fun kk o n hkk hn => ?_⟩
      · rcases List.mem_cons.1 hm with hm | hm
        · cases hm
          refine .own ?_
          rw [hslot.of_nils]
          simp [Rho.set]
        · exact (s4 t' k' el' xs' hm).ext q3
      · unfold Rho.set at hkk
        split at hkk
        · cases hkk; simp [RObj.own, Value.ownBlock] at hn
        · exact s5 kk o n hkk hn

theorem envO_spec {e0 : Env} {s : Nat} : ∀ (own : List (Nat × Nat × TypeId × List (List V))), (∃ k el xs, (s, k, el, xs) ∈ own ∧ envO own e0 s = .own k) ∨ envO own e0 s = e0 s
  | [] => .inr rfl
  | (t, k, el, xs) :: r => by
    simp only [envO]
    split
    · rename_i hb
      exact .inl ⟨k, el, xs, by rw [beqN.1 hb]; exact List.mem_cons_self, rfl⟩
    · rcases envO_spec (e0 := e0) (s := s) r with ⟨k', el', xs', h1, h2⟩ | h
      · exact .inl ⟨k', el', xs', List.mem_cons_of_mem _ h1, h2⟩
      · exact .inr h
theorem envL_spec {s : Nat} : ∀ (l : List (Nat × V)), (∃ v, (s, v) ∈ l ∧ envL l s = v) ∨ envL l s = .any
  | [] => .inr rfl
  | (t, v) :: r => by
    simp only [envL]
    split
    · rename_i hb
      exact .inl ⟨v, by rw [beqN.1 hb]; exact List.mem_cons_self, rfl⟩
    · rcases envL_spec (s := s) r with ⟨v', h1, h2⟩ | h
      · exact .inl ⟨v', List.mem_cons_of_mem _ h1, h2⟩
      · exact .inr h
theorem fitsEnv_mem {ck : List Nat} : ∀ {l : List (Nat × V)}, fitsEnv e ck l → ∀ t v, (t, v) ∈ l → e t = v ∧ okV ck v = true
  | [], _, t, v, hm => by cases hm
  | (t', v') :: r, hf, t, v, hm => by
    rcases List.mem_cons.1 hm with hm | hm
    · cases hm; exact hf.1
    · exact fitsEnv_mem hf.2 t v hm
theorem Fits.state {I : Inv} (hf : Fits P e h I) (hs : St P cx h w R ρ) (ht : There h ρ) (he : EnvRep N e a w R ρ) : ∃ ρ', St P cx I.hp w R ρ' ∧ There I.hp ρ' ∧ EnvRep N I.en a w R ρ' := by
  obtain ⟨ρ', s1, s2, s3, s4, _⟩ := fits_own hf.cells hs ht he I.own [] (nodupB_spec hf.nodup) hf.own
  refine ⟨ρ', s1, s2, ⟨he.size, fun t => ?_, he.defers⟩⟩
  rcases envO_spec (e0 := envL I.env) (s := t) I.own with ⟨k, el, xs, h1, h2⟩ | h1
  · show Rep w R ρ' (envO I.own (envL I.env) t) _
    rw [h2]; exact s4 t k el xs h1
  · show Rep w R ρ' (envO I.own (envL I.env) t) _
    rw [h1]
    rcases envL_spec (s := t) I.env with ⟨v, h3, h4⟩ | h3
    · rw [h4]
      obtain ⟨h5, h6⟩ := fitsEnv_mem hf.env t v h3
      have := he.rep t
      rw [h5] at this
      exact okV_rep h6 this s3
    · rw [h3]; exact .any
/-- THE WALK BEGINS ANEW with what I says -/
theorem AW.cut {c : Code} (I : Inv) (hf : Fits P e h I) (k : AW P N c I.en I.hp Q) : AW P N c e h Q :=
  ⟨fun cx R ρ a w hs ht he => by obtain ⟨ρ', s1, s2, s3⟩ := hf.state hs ht he; exact k.run cx R ρ' a w s1 s2 s3⟩
/-- A LOOP -/
theorem AW.loop {c : Code} {ι : Type} (p : ι → Prop) (I : ι → Inv) (m : ι → Nat) (i0 : ι) (h0 : p i0) (hf : Fits P e h (I i0))
    (round : ∀ i, p i → AW P N c (I i).en (I i).hp (fun ex e h => match ex with | .normal => ∃ j, p j ∧ m j < m i ∧ Fits P e h (I j) | ex => Q ex e h)) : AW P N (.loop c) e h Q := by
  refine ⟨fun cx R ρ a w hs ht he => ?_⟩
  classical
  let S : ι → Act → World → Prop := fun i a w => p i ∧ ∃ R ρ, St P cx (I i).hp w R ρ ∧ There (I i).hp ρ ∧ EnvRep N (I i).en a w R ρ
  let J : Act → World → Prop := fun a w => ∃ i, S i a w
  -- the least measure at which the state is one of the loop's
  have least : ∀ a w, J a w → ∃ i, S i a w ∧ ∀ j, S j a w → m i ≤ m j := fun a w hJ => by
    obtain ⟨i, hi⟩ := hJ
    have : ∀ n i, m i ≤ n → S i a w → ∃ i, S i a w ∧ ∀ j, S j a w → m i ≤ m j := fun n => by
      induction n with
      | zero => exact fun i hn hi => ⟨i, hi, fun j _ => by omega⟩
      | succ n ih =>
        intro i hn hi
        by_cases hx : ∃ j, S j a w ∧ m j < m i
        · obtain ⟨j, hj, hl⟩ := hx; exact ih j (by omega) hj
        · exact ⟨i, hi, fun j hj => by
            rcases Nat.lt_or_ge (m j) (m i) with h1 | h1
            · exact absurd ⟨j, hj, h1⟩ hx
            · exact h1⟩
    exact this (m i) i (Nat.le_refl _) hi
  let μ : Act → World → Nat := fun a w => if hJ : J a w then m (Classical.choose (least a w hJ)) else 0
  obtain ⟨ρ', s1, s2, s3⟩ := hf.state hs ht he
  refine wp_loop J μ ⟨i0, h0, R, ρ', s1, s2, s3⟩ fun a w hJ => ?_
  have hμ : μ a w = m (Classical.choose (least a w hJ)) := dif_pos hJ
  obtain ⟨⟨hp, R1, ρ1, t1, t2, t3⟩, hmin⟩ := Classical.choose_spec (least a w hJ)
  generalize Classical.choose (least a w hJ) = i at *
  refine wp_mono ((round i hp).run cx R1 ρ1 a w t1 t2 t3) fun ex a' w' ⟨e', h', R', ρ', q, u1, u2, u3⟩ => ?_
  cases ex with
  | normal =>
    obtain ⟨j, hj, hm, hfj⟩ := q
    obtain ⟨ρ'', v1, v2, v3⟩ := hfj.state u1 u2 u3
    have hS : S j a' w' := ⟨hj, R', ρ'', v1, v2, v3⟩
    have hJ' : J a' w' := ⟨j, hS⟩
    refine ⟨hJ', ?_⟩
    have hμ' : μ a' w' = m (Classical.choose (least a' w' hJ')) := dif_pos hJ'
    have := (Classical.choose_spec (least a' w' hJ')).2 j hS
    omega
  | _ => exact ⟨e', h', R', ρ', q, u1, u2, u3⟩

/-- a list is no longer than a length can say -/
theorem AW.len {c : Code} (t : Nat) {xs : List (List V)} (ht : e t = .sl xs) (k : xs.length ≤ maxLen → AW P N c e h Q) : AW P N c e h Q := by
  refine ⟨fun cx R ρ a w hs hth he => ?_⟩
  have := he.rep t
  rw [ht] at this
  have hl : xs.length ≤ maxLen := by
    generalize a.tmps.getD t undef = y at this
    cases this with
    | slnil => exact Nat.zero_le _
    | sl f hn hc hm hR hE hf h1 hr => omega
  exact (k hl).run cx R ρ a w hs hth he
theorem of_map {α : Type} {l : List α} {f : α → List V} {i : Nat} {row : List V} (h : (l.map f)[i]? = some row) : ∃ p, l[i]? = some p ∧ f p = row := by
  rw [List.getElem?_map] at h
  cases hq : l[i]? with
  | none => rw [hq] at h; cases h
  | some p => rw [hq] at h; exact ⟨p, rfl, by simpa using h⟩

theorem toNat_pred (n : Nat) : ((n : Int) - 1).toNat = n - 1 := by omega
theorem toNat_succ' (n : Nat) : ((n : Int) + 1).toNat = n + 1 := by omega
theorem toNat_zero' : (0 : Int).toNat = 0 := rfl
theorem toNat_one' : (1 : Int).toNat = 1 := rfl
theorem same_map {α : Type} {l : List α} {f : α → List V} {i : Nat} {p : α} {row : List V} (h1 : l[i]? = some p) (h : (l.map f)[i]? = some row) : row = f p := by
  rw [List.getElem?_map, h1] at h
  simpa using h.symm

/-! ### a contract out of a body -/
/-- a result: a list of one's own is handed out -/
def outK (v : V) (h : Hp) (k : V → Prop) : Prop := match v with
  | .own c => match h c with | some (.rows _ xs) => k (.sl xs) | _ => False
  | .any => False
  | .und => False
  | .oelt _ _ _ _ => False
  | .tup _ => False
  | .ptr _ _ => False
  | .bool b => k (.bool b)
  | .int i n => k (.int i n)
  | .str l => k (.str l)
  | .val x => k (.val x)
  | .agg cs => klK (.agg cs) (k (.agg cs))
  | .nils => k .nils
  | .sl xs => k (.sl xs)
  | .elt r o => k (.elt r o)
  | .ifc t x => klK (.ifc t x) (k (.ifc t x))
  | .fn f c => klK (.fn f c) (k (.fn f c))
def resK (T : Tab) (e : Env) (h : Hp) : List ResultVar → (List V → Prop) → Prop
  | [], k => k []
  | .tmp t :: r, k => outK (e t) h fun v => resK T e h r fun vs => k (v :: vs)
  | .cell a t :: r, k => match T t with
    | some ti => match e a with
      | .ptr b off => match h b with | some (.cells cs) => partK ti.isAgg ti.cells cs off fun v => outK v h fun v => resK T e h r fun vs => k (v :: vs) | _ => False
      | _ => False
    | none => False
def oneK (vs : List V) (k : V → Prop) : Prop := match vs with | [v] => k v | _ => k (.tup vs)
def retK (T : Tab) (rs : List ResultVar) (post : V → Prop) : Exit → Env → Hp → Prop
  | .ret, e, h => resK T e h rs fun vs => oneK vs post
  | .normal, e, h => resK T e h rs fun vs => oneK vs post
  | _, _, _ => False
def envOf : List V → Env
  | [], _ => .und
  | v :: _, 0 => v
  | _ :: r, n + 1 => envOf r n
def hp0 : Hp := fun _ => none

/-- what a list of one's own holds may be read from here on: a wider R -/
theorem own_read {k : Nat} {el : TypeId} {xs : List (List V)} {x : Value} (hs : St P cx h w R ρ) (hk : h k = some (.rows el xs)) (hr : Rep w R ρ (.own k) x) :
    Rep w (fun n => R n ∨ (n < w.heap.size ∧ (cx.w0.heap.size ≤ n ∨ cx.M n))) rho0 (.sl xs) x := by
  cases hr with
  | own hp =>
    obtain ⟨E, fl, ho⟩ := hs.brep k _ _ hp hk
    obtain ⟨ha, hb⟩ := ho.owns
    rcases hb with ⟨rfl, h0⟩ | ⟨g, cap, cur, rfl, hbg, hg, hnc, hcm, hcs, htake⟩
    · have : xs = [] := List.eq_nil_of_length_eq_zero h0
      subst this; exact .slnil
    · obtain ⟨m1, m2, m3⟩ := hs.mine k _ g ⟨_, hk, by simp⟩ hp rfl
      have hcell := ho.cell.2.2
      obtain ⟨cur', q1, q2, q3⟩ := hcell
      refine .sl (o := 0) (E := E) (fun j => fl.getD j undef) rfl hnc (by omega) (.inr ⟨m2, m3⟩) ho.len (fun j hj => ?_) (fun j hj => ?_) fun i row j v hi hj => ?_
      · rw [Nat.zero_add, q3 j hj]; simp [List.getD, List.getElem?_eq_getElem (show j < fl.length by omega)]
      · simp [List.getD, List.getElem?_eq_getElem (show j < fl.length by omega)]
        exact ho.one _ (List.getElem_mem _)
      · obtain ⟨y, hy, hry⟩ := (ho.rep i row hi).get hj
        rw [List.getElem?_take] at hy
        split at hy
        · rw [List.getElem?_drop] at hy
          simp only [List.getD, hy, Option.getD_some]
          exact hry.mono (fun _ h => .inl h) (fun _ _ => rfl) (fun k o h => by cases h)
        · cases hy
theorem outK_spec {v : V} {k : V → Prop} (hk : outK v h k) (hs : St P cx h w R ρ) {x : Value} (hr : Rep w R ρ v x) : ∃ u, k u ∧ Rep w (fun n => R n ∨ (n < w.heap.size ∧ (cx.w0.heap.size ≤ n ∨ cx.M n))) rho0 u x := by
  have wide : ∀ {u : V}, Rep w R rho0 u x → Rep w (fun n => R n ∨ (n < w.heap.size ∧ (cx.w0.heap.size ≤ n ∨ cx.M n))) rho0 u x := fun h => h.mono (fun _ h => .inl h) (fun _ _ => rfl) (fun _ _ h => h)
  unfold outK at hk
  split at hk <;> try exact hk.elim
  · split at hk
    · rename_i hb; exact ⟨_, hk, own_read hs hb hr⟩
    · exact hk.elim
  · exact ⟨_, hk, wide (hr.kl 1 rfl)⟩
  · exact ⟨_, hk, wide (hr.kl 1 rfl)⟩
  · exact ⟨_, hk, wide (hr.kl 1 rfl)⟩
  · exact ⟨_, hk, wide (hr.kl 1 rfl)⟩
  · obtain ⟨h1, hk⟩ := klK_spec hk; exact ⟨_, hk, wide (hr.kl 40 h1)⟩
  · exact ⟨_, hk, wide (hr.kl 1 rfl)⟩
  · exact ⟨_, hk, wide (hr.kl 1 rfl)⟩
  · exact ⟨_, hk, wide (hr.kl 1 rfl)⟩
  · obtain ⟨h1, hk⟩ := klK_spec hk; exact ⟨_, hk, wide (hr.kl 40 h1)⟩
  · obtain ⟨h1, hk⟩ := klK_spec hk; exact ⟨_, hk, wide (hr.kl 40 h1)⟩
theorem run_loadVar_of {t : TypeId} {b off : Nat} {x : Value} (hx : (Instr.loadAt t (.pointer (some ⟨b, off, none⟩))).run P w = .ok x w) : (do loadVar t (← asAddr (.pointer (some ⟨b, off, none⟩))) : Sem Value).run P w = .ok x w := by
  simpa [Instr.loadAt, Instr.sureAddr, asAddr] using hx
def resOne (tmps : Array Value) : ResultVar → Sem Value
  | .tmp t => pure (tmps.getD t undef)
  | .cell p t => do loadVar t (← asAddr (tmps.getD p undef))
theorem resK_spec (hT : TabOk P T) (hs : St P cx h w R ρ) (he : EnvRep N e a w R ρ) : ∀ (rs : List ResultVar) (k : List V → Prop), resK T e h rs k →
    ∃ vs xs, k vs ∧ Reps w (fun n => R n ∨ (n < w.heap.size ∧ (cx.w0.heap.size ≤ n ∨ cx.M n))) rho0 vs xs ∧
      (rs.mapM (resOne a.tmps)).run P w = .ok xs w
  | [], k, hk => ⟨[], [], hk, .nil, by simp⟩
  | .tmp t :: r, k, hk => by
    obtain ⟨u, hk, hu⟩ := outK_spec hk hs (he.rep t)
    obtain ⟨vs, xs, h1, h2, h3⟩ := resK_spec hT hs he r _ hk
    refine ⟨_, _, h1, .cons hu h2, ?_⟩
    rw [List.mapM_cons]
    simp [resOne, h3]
  | .cell p t :: r, k, hk => by
    simp only [resK] at hk
    split at hk
    · rename_i ti hti
      split at hk
      · rename_i b off hp
        split at hk
        · rename_i cs hb
          obtain ⟨v, hk, hv⟩ := partK_spec hk
          have hpp := he.rep p
          rw [hp] at hpp
          generalize hx : a.tmps.getD p undef = px at hpp
          cases hpp with
          | ptr hq =>
            rename_i bb
            obtain ⟨xs0, t', hbb, hreps, hone⟩ := hs.brep b _ _ hq hb
            obtain ⟨y, hy, hry⟩ := run_loadVar_at (P := P) (w := w) (R := R) (ρ := ρ) (hT t ti hti) (b := bb) (o := 0) (off := off) (cs := cs) (f := fun j => xs0.getD j undef) (fun j hj => by
              rw [cell_of_block hbb]; simp [List.getD, List.getElem?_eq_getElem (show j < xs0.length by rw [← hreps.1]; exact hj)]) (fun j hj => by
              have hj' : j < xs0.length := by rw [← hreps.1]; exact hj
              simp [List.getD, List.getElem?_eq_getElem hj']; exact hone _ (List.getElem_mem hj')) (fun j v hv => by
              obtain ⟨y, hy, hr⟩ := hreps.get hv
              simp [List.getD, hy]; exact hr) hv
            obtain ⟨u, hk, hu⟩ := outK_spec hk hs hry
            obtain ⟨vs, xs, h1, h2, h3⟩ := resK_spec hT hs he r _ hk
            refine ⟨_, _, h1, .cons hu h2, ?_⟩
            rw [Nat.zero_add] at hy
            have hy' := run_loadVar_of hy
            rw [List.mapM_cons]
            simp only [resOne, hx, Sem.run_bind] at hy' ⊢
            rw [hy']
            simp [h3]
        · exact hk.elim
      · exact hk.elim
    · exact hk.elim
theorem envOf_lt : ∀ (args : List V) (t : Nat), t < args.length → args[t]? = some (envOf args t)
  | [], t, h => by simp at h
  | v :: r, 0, _ => rfl
  | v :: r, t + 1, h => by simpa [envOf] using envOf_lt r t (by simpa using h)
theorem envOf_ge : ∀ (args : List V) (t : Nat), args.length ≤ t → envOf args t = .und
  | [], t, _ => rfl
  | v :: r, 0, h => by simp at h
  | v :: r, t + 1, h => envOf_ge r t (by simpa using h)
/-- A CONTRACT OUT OF A BODY -/
theorem Fn.mk' (B : Base P T) {f : FuncId} {fn : Func} {c : Code} {args : List V} {r : V} (hf : P.funcs[f]? = some fn) (hname : (fn.name == "runtime.NumGoroutine") = false) (hb : fn.body = some c) (hlen : Nat.ble args.length fn.ntmps = true)
    (k : AW P fn.ntmps c (envOf args) hp0 (retK T fn.results.toList (· = r))) : Fn P f args r := by
  refine ⟨⟨fn, hf, by simpa using hname, by simp [hb]⟩, fun w R xs hR hr => ?_⟩
  refine calls_of_wp hf hb ?_
  have hlen' : args.length ≤ fn.ntmps := Nat.le_of_ble_eq_true hlen
  have hsz := hr.1
  let cx : Cx := ⟨w, R, fun _ => False⟩
  have hs : St P cx hp0 w R rho0 := ⟨⟨rfl, rfl, rfl, Nat.le_refl _, fun _ _ _ => rfl⟩, fun k o b hk => (by cases hk), fun k k' o o' n _ _ _ hk => (by cases hk), fun k o n _ hk => (by cases hk), hR, fun n hn => .inl hn⟩
  have he : EnvRep fn.ntmps (envOf args) { tmps := xs.toArray ++ Array.replicate (fn.ntmps - xs.toArray.size) undef, defers := [] } w R rho0 := by
    refine ⟨by simp; omega, fun t => ?_, rfl⟩
    simp only [Array.getD_eq_getD_getElem?]
    rcases Nat.lt_or_ge t args.length with h1 | h1
    · have h2 := envOf_lt args t h1
      have h3 : t < xs.length := by omega
      rw [Array.getElem?_append_left (by simpa using h3)]
      simp only [List.getElem?_toArray, List.getElem?_eq_getElem h3, Option.getD_some]
      exact hr.2 t _ _ h2 (List.getElem?_eq_getElem h3)
    · rw [envOf_ge args t h1, Array.getElem?_append_right (by simp; omega)]
      simp only [Array.getElem?_replicate]
      split <;> exact .und
  refine wp_mono (k.run cx R rho0 _ w hs (fun k o hk => by cases hk) he) fun ex a' w' ⟨e', h', R', ρ', q, s1, s2, s3⟩ => ?_
  have fin : resK T e' h' fn.results.toList (fun vs => oneK vs (· = r)) → a'.defers = [] ∧ ∃ v, (results fn a'.tmps).run P w' = .ok v w' ∧ ∃ x, Ending.returned v = .returned x ∧ Below w.heap.size w w' ∧ ∃ R', (∀ n, R n → R' n) ∧ (∀ n, R' n → R n ∨ (w.heap.size ≤ n ∧ n < w'.heap.size)) ∧ Rep w' R' rho0 r x := fun hq => by
    obtain ⟨vs, ys, h1, h2, h3⟩ := resK_spec B.tab s1 s3 _ _ hq
    have hrun : (results fn a'.tmps).run P w' = .ok (if h : ys.length = 1 then ys[0] else .tuple ys.toArray) w' := by
      have e1 : fn.results = fn.results.toList.toArray := by simp
      have e2 : results fn a'.tmps = (do let vs ← fn.results.mapM (resOne a'.tmps); pure (if h : vs.size = 1 then vs[0] else .tuple vs) : Sem Value) := by
        unfold results
        congr 1
      rw [e2, e1, List.mapM_toArray]
      simp [h3]
    have hval : Rep w' (fun n => R' n ∨ (n < w'.heap.size ∧ (w.heap.size ≤ n ∨ False))) rho0 r (if h : ys.length = 1 then ys[0] else .tuple ys.toArray) := by
      unfold oneK at h1
      split at h1
      · rename_i v
        subst h1
        obtain ⟨y, rr, rfl, hy, hrr⟩ := h2.uncons
        have : rr = [] := List.eq_nil_of_length_eq_zero (by have := hrr.1; simpa using this.symm)
        subst this
        exact hy
      · rename_i hne
        subst h1
        have : ys.length ≠ 1 := fun hl => by
          have := h2.1
          rw [hl] at this
          obtain ⟨v, rfl⟩ := List.length_eq_one_iff.1 this
          exact hne v rfl
        rw [dif_neg this]
        exact .tup h2.1 h2.2
    refine ⟨s3.defers, _, hrun, _, rfl, ⟨s1.keeps.os, s1.keeps.tape, s1.keeps.output, s1.keeps.size, fun n hn => s1.keeps.block n hn id⟩, fun n => R n ∨ (w.heap.size ≤ n ∧ n < w'.heap.size), fun n hn => .inl hn, fun n hn => hn, hval.mono (fun n hn => ?_) (fun _ _ => rfl) (fun _ _ h => h)⟩
    rcases hn with hn | ⟨hn1, hn2 | hn2⟩
    · rcases s1.rold n hn with h4 | h4
      · exact .inl h4
      · exact .inr ⟨h4, s1.rlt n hn⟩
    · exact .inr ⟨hn2, hn1⟩
    · exact hn2.elim
  cases ex <;> try exact q.elim
  · exact fin q
  · exact fin q
theorem Fn.weaken {f : FuncId} {args args' : List V} {r : V} (h : Fn P f args' r) (hr : ∀ (w : World) (R : Nat → Prop) (xs : List Value), Reps w R rho0 args xs → Reps w R rho0 args' xs) : Fn P f args r :=
  ⟨h.seen, fun w R xs hR hx => h.run w R xs hR (hr w R xs hx)⟩
theorem Fn.nil0 {f : FuncId} {b : List V} {r : V} (h : Fn P f (.sl [] :: b) r) : Fn P f (.nils :: b) r := h.weaken fun w R xs hx => by
  obtain ⟨x, rr, rfl, h1, h2⟩ := hx.uncons
  rw [h1.of_nils]
  exact .cons .slnil h2
theorem Fn.nil1 {f : FuncId} {a : V} {b : List V} {r : V} (h : Fn P f (a :: .sl [] :: b) r) : Fn P f (a :: .nils :: b) r := h.weaken fun w R xs hx => by
  obtain ⟨x, rr, rfl, h1, h2⟩ := hx.uncons
  obtain ⟨y, rr, rfl, h3, h4⟩ := h2.uncons
  rw [h3.of_nils]
  exact .cons h1 (.cons .slnil h4)
end
end Go.Proofs.Ythcbffejjkmmfaa
