/-
  Whatever AbsDef's walk says of an operation, the operation does: all operations together. No conditions.
-/
import Derived.Test.YthchmjdgepbjpaaDoorAbsCall2
namespace Go.Proofs.YthchmjdgepbjpaaDoor
open Go.RowKit
set_option linter.unusedSimpArgs false
set_option linter.unusedVariables false

section
variable {P : Program} {cx : Cx} {h h' : Hp} {w w' : World} {R : Nat → Prop} {ρ : Rho} {c : Nat} {v : V} {x : Value} {e : Env} {T : Tab} {C : Cons}

/-- the operation does it wherever the blocks that it looks at hold the same -/
def Does [Inhabited TabT] (P : Program) (cx : Cx) (o : Oper) (e : Env) (h : Hp) (v : V) (rs : List Nat) (ws : List (Nat × Blk)) : Prop := ∀ h1 : Hp, (∀ k ∈ rs, h1 k = h k) → OpOk P cx o e h1 v ws
theorem Does.more [Inhabited TabT] {o : Oper} {rs rs' : List Nat} {ws : List (Nat × Blk)} (hd : Does P cx o e h v rs ws) (hs : ∀ k ∈ rs, k ∈ rs') : Does P cx o e h v rs' ws := fun h1 hag => hd h1 fun k hk => hag k (hs k hk)
theorem Does.of0 [Inhabited TabT] {o : Oper} (H : ∀ h, CalmOk P cx 0 o e h v none) {rs : List Nat} : Does P cx o e h v rs [] := fun h1 _ => (H h1).ok0
theorem Does.conv [Inhabited TabT] {o : Oper} {u : V} {rs : List Nat} {ws : List (Nat × Blk)} (hd : Does P cx o e h v rs ws) (hc : ∀ (cx : Cx) (h1 : Hp) (w : World) (R : Nat → Prop) (ρ : Rho) (x : Value), (∀ k ∈ rs, h1 k = h k) → St P cx (h1.sets ws) w R ρ → Rep w R ρ v x → Rep w R ρ u x) : Does P cx o e h u rs ws := fun h1 hag R ρ a w hs hr ht =>
  (hd h1 hag R ρ a w hs hr ht).mono fun x w' ⟨R', ρ', s1, s2, s3, s4⟩ => ⟨R', ρ', s1, s2, s3, hc _ _ _ _ _ _ hag s1 s4⟩
/-- a list that has been given up is what it holds -/
theorem viewK_spec [Inhabited TabT] {v : V} {k : V → List Nat → Prop} (hk : viewK h v k) : ∃ u ks, k u ks ∧ ∀ (P : Program) (cx : Cx) (h1 : Hp) (w : World) (R : Nat → Prop) (ρ : Rho) (x : Value), (∀ k ∈ ks, h1 k = h k) → St P cx h1 w R ρ → Rep w R ρ v x → Rep w R ρ u x := by
  unfold viewK at hk
  replace hk := forceK_iff.1 hk
  split at hk
  · rename_i a
    split at hk
    · rename_i u hu
      refine ⟨_, _, forceK_iff.1 hk, fun P cx h1 w R ρ x hag hs hr => ?_⟩
      cases hr with
      | own hp => exact Rep.mono (hs.brep a _ _ hp ((hag a (by simp)).trans hu)) (fun _ h => h) (fun _ _ => rfl) (fun k o h => by cases h)
    · exact ⟨_, _, hk, fun _ _ _ _ _ _ _ _ _ hr => hr⟩
  · exact ⟨_, _, hk, fun _ _ _ _ _ _ _ _ _ hr => hr⟩
/-- pointers, held against nil -/
structure IsPtr (P : Program) (t : TypeId) : Prop where
  eq : ∀ (w : World) (a c : Option Addr) (d : Nat), (a.isNone || c.isNone) = true → (Op.equalIn (d + 1) t (.pointer a) (.pointer c)).run P w = .ok (a.isNone && c.isNone) w
theorem isPK_spec {t : TypeId} {p : Prop} (hT : TabOk P T) (hh : isPK (T t) p) : IsPtr P t ∧ p := by
  unfold isPK at hh
  split at hh
  · rename_i ht
    obtain ⟨d, hd, hk⟩ := tiOk_kind (hT t _ ht)
    refine ⟨⟨fun w a c n hn => ?_⟩, hh⟩
    cases d <;> simp [kindB] at hk <;> (
      unfold Op.equalIn
      simp only [Sem.run_bind, run_underlying hd, Result.andThen_ok]
      cases a with
      | none => cases c <;> first | rfl | (simp; done)
      | some a => cases c with
        | none => first | rfl | (simp; done)
        | some c => simp at hn)
  · exact hh.elim
def PV (v : V) : Prop := v = .val (.pointer none) ∨ (∃ k o, v = .ptr k o) ∨ ∃ r o, v = .elt r o
def nilB : V → Bool
  | .val _ => true
  | _ => false
theorem PV.val {v : V} {x : Value} (hv : PV v) (hr : Rep w R ρ v x) : ∃ a, x = .pointer a ∧ a.isNone = nilB v := by
  rcases hv with rfl | ⟨k, o, rfl⟩ | ⟨r, o, rfl⟩
  · exact ⟨none, hr.of_val, rfl⟩
  · cases hr; exact ⟨_, rfl, rfl⟩
  · cases hr; exact ⟨_, rfl, rfl⟩
theorem zB_nilIface {x : Value} (h : zB (.val .nilIface) x = true) : x = .nilIface := by
  cases x <;> simp [zB] at h ⊢
theorem lst {α : Type} {a : Array α} {l : List α} (h : a.toList = l) : a = l.toArray := by apply Array.ext'; simpa using h
theorem opF_sound [Inhabited TabT] (hT : TabOk P T) (hC : ConsOk P C) (o : Oper) {K : FK} (hk : opF C T c o e h K) :
    ∃ v rs ws, K v rs ws ∧ Does P cx o e h v rs ws := by
  obtain ⟨dst, op, ty, pos, af, gd⟩ := o
  have zero : ∀ {o : Oper} {v : V}, (∀ h, CalmOk P cx 0 o e h v none) → K v [] [] → ∃ v rs ws, K v rs ws ∧ Does P cx o e h v rs ws := fun H hK => ⟨_, _, _, hK, .of0 H⟩
  have view : ∀ {o : Oper} {v : V} {ls : List Nat}, Does P cx o e h v ls [] → (viewK h v fun v ks => K v (ls ++ ks) []) → ∃ v rs ws, K v rs ws ∧ Does P cx o e h v rs ws := fun H hK => by
    obtain ⟨u, ks, h1, h2⟩ := viewK_spec hK
    exact ⟨_, _, _, h1, (H.more (fun k hk => List.mem_append_left _ hk)).conv fun cx h1 w R ρ x hag hs hr => h2 P cx h1 w R ρ x (fun k hk => hag k (List.mem_append_right _ hk)) hs hr⟩
  cases op <;> try exact hk.elim
  case move x => simp only [opF] at hk; exact view (ls := []) (.of0 fun h => move_ok x) hk
  case assign x => simp only [opF] at hk; exact view (ls := []) (.of0 fun h => assign_ok x) hk
  case pick q a b =>
    simp only [opF] at hk
    split at hk
    · rename_i t hq
      rcases hk.cases with ⟨rfl, hk'⟩ | ⟨rfl, hk'⟩
      · exact zero (fun h => by simpa using pick_ok q a b hq) (forceK_iff.1 hk')
      · exact zero (fun h => by simpa using pick_ok q a b hq) (forceK_iff.1 hk')
    · exact hk.elim
  case alloc t =>
    simp only [opF] at hk
    split at hk
    · rename_i ti hti
      split at hk
      · rename_i hn
        exact ⟨_, _, _, hk, fun h1 hag => (alloc_ok (c := c) (hT t ti hti)).ok1 ((hag c (by simp)).trans hn)⟩
      · exact hk.elim
    · exact hk.elim
  case box t x =>
    simp only [opF] at hk
    split at hk
    · rename_i ti hti
      split at hk
      · rename_i hc0
        obtain ⟨h1, hk⟩ := innerK_spec hk
        obtain ⟨h2, hk⟩ := natK_spec hk
        exact ⟨_, _, _, hk, fun h1' hag => box_ok x ((hag c (by simp)).trans hc0) h1⟩
      · exact hk.elim
    · exact hk.elim
  case load t x =>
    simp only [opF] at hk
    split at hk
    · rename_i ti hti
      split at hk
      · rename_i a off hx
        unfold cellsK at hk
        split at hk
        · rename_i cs hb
          obtain ⟨v, hk, hv⟩ := partK_spec hk
          exact view (ls := [a]) (fun h1 hag => (load_ptr_ok (c := 0) (hT t ti hti) x hx ((hag a (by simp)).trans hb) hv).ok0) hk
        · rename_i u hb
          split at hk
          · obtain ⟨v, hk, hv⟩ := partK_spec hk
            exact view (ls := [a]) (fun h1 hag => (load_rd_ok (c := 0) (hT t ti hti) x hx ((hag a (by simp)).trans hb) hv).ok0) hk
          · exact hk.elim
        · exact hk.elim
      · rename_i row off hx
        obtain ⟨v, hk, hv⟩ := partK_spec hk
        exact zero (fun h => load_elt_ok (hT t ti hti) x hx hv) (forceK_iff.1 hk)
      · rename_i a E i off hx
        split at hk
        · rename_i el xs hb
          obtain ⟨hi, hk⟩ := hk
          obtain ⟨hE, hk⟩ := hk xs[i] (by simp [hi])
          obtain ⟨v, hk, hv⟩ := partK_spec hk
          exact ⟨_, _, _, forceK_iff.1 hk, fun h1 hag => (load_oelt_ok (c := 0) (hT t ti hti) x hx ((hag a (by simp)).trans hb) (row := xs[i]) (by simp [hi]) hE hv).ok0⟩
        · exact hk.elim
      · exact hk.elim
    · exact hk.elim
  case store t x y =>
    simp only [opF] at hk
    split at hk
    · rename_i ti hti
      split at hk
      · rename_i a off hx
        split at hk
        · rename_i cs hb
          obtain ⟨h1, hk⟩ := innerK_spec hk
          obtain ⟨h2, hk⟩ := natK_spec hk
          obtain ⟨h3, hk⟩ := writeK_spec _ _ _ _ hk
          exact ⟨_, _, _, hk, fun h1' hag => (store_ptr_ok (hT t ti hti) x y hx ((hag a (by simp)).trans hb) h1 h2 h3).ok⟩
        · exact hk.elim
      · rename_i a E i off hx
        split at hk
        · rename_i el xs hb
          obtain ⟨h1, hk⟩ := innerK_spec hk
          obtain ⟨h0, hk⟩ := klK_spec hk
          obtain ⟨h2, hk⟩ := natK_spec hk
          obtain ⟨hi, hk⟩ := hk
          obtain ⟨hE, hk⟩ := hk xs[i] (by simp [hi])
          obtain ⟨h3, hk⟩ := writeK_spec _ _ _ _ hk
          exact ⟨_, _, _, hk, fun h1' hag => (store_oelt_ok (hT t ti hti) x y hx ((hag a (by simp)).trans hb) (row := xs[i]) (by simp [hi]) hE h1 h0 h2 h3).ok⟩
        · exact hk.elim
      · exact hk.elim
    · exact hk.elim
  case nilCheck x =>
    simp only [opF] at hk
    have fin : ∀ {v : V}, e.rd x = v → (∀ w R ρ y, Rep w R ρ v y → (y ≠ .pointer none ∧ y ≠ .nilIface ∧ y ≠ .nilFunc ∧ ∀ n a b, y ≠ .func (.method n) a b)) → ∀ h, CalmOk P cx 0 ⟨dst, .nilCheck x, ty, pos, af, gd⟩ e h v none := fun {v} hx hn h => .of_val fun R ρ ac w hs hr => by
      have g := hr x (by simp [Op.operands])
      rw [hx] at g
      obtain ⟨n1, n2, n3, n4⟩ := hn w R ρ _ g
      refine ⟨ac.eval x, ?_, g⟩
      simp only [execOp]
      generalize ac.eval x = y at n1 n2 n3 n4
      cases y <;> first
        | rfl
        | exact absurd rfl n3
        | exact absurd rfl n2
        | (rename_i a; cases a <;> first | rfl | exact absurd rfl n1)
        | (rename_i f _ _; cases f <;> first | rfl | exact absurd rfl (n4 _ _ _))
    split at hk
    · rename_i a off hx
      exact zero (fin hx fun w R ρ y hr => by cases hr; simp) hk
    · rename_i r off hx
      exact zero (fin hx fun w R ρ y hr => by cases hr; simp) hk
    · rename_i t u hx
      exact zero (fin hx fun w R ρ y hr => by cases hr; simp) hk
    · exact hk.elim
  case binOp op t x y t' =>
    simp only [opF] at hk
    have fin : ∀ {u : V}, (∀ (w : World) R ρ (a b : Value), Rep w R ρ (e.rd x) a → Rep w R ρ (e.rd y) b → ∃ r, (do eqGuard op t x y a b; binOp op t a b : Sem Value).run P w = .ok r w ∧ Rep w R ρ u r) → K u [] [] → ∃ v rs ws, K v rs ws ∧ Does P cx ⟨dst, .binOp op t x y t', ty, pos, af, gd⟩ e h v rs ws := fun {u} h2 h1 => by
      refine zero (fun h => .of_val fun R ρ a w hs hr => ?_) h1
      obtain ⟨r, h3, h4⟩ := h2 w R ρ _ _ (hr x (by simp [Op.operands])) (hr y (by simp [Op.operands]))
      refine ⟨r, ?_, h4⟩
      simp only [execOp, Sem.run_bind, Sem.run_pure] at h3 ⊢
      rw [h3]
      rfl
    have ptrs : ∀ {b : Bool}, IsPtr P t → PV (e.rd x) → PV (e.rd y) → (nilB (e.rd x) || nilB (e.rd y)) = true → (nilB (e.rd x) && nilB (e.rd y)) = b → goK op b (fun v => K v [] []) → ∃ v rs ws, K v rs ws ∧ Does P cx ⟨dst, .binOp op t x y t', ty, pos, af, gd⟩ e h v rs ws := fun {b} hp hx hy h0 hb hk => by
      have run : ∀ (w : World) R ρ (a c : Value), Rep w R ρ (e.rd x) a → Rep w R ρ (e.rd y) c → (Op.equal t a c).run P w = .ok b w ∧ ∃ a', a = .pointer a' := fun w R ρ a c ha hc => by
        obtain ⟨a', rfl, h1⟩ := hx.val ha
        obtain ⟨c', rfl, h2⟩ := hy.val hc
        rw [← h1, ← h2] at h0 hb
        exact ⟨by rw [← hb]; exact hp.eq w a' c' 9999 h0, _, rfl⟩
      unfold goK at hk
      split at hk
      · refine fin (fun w R ρ a c ha hc => ⟨.bool b, ?_, .bool⟩) hk
        obtain ⟨h1, a', rfl⟩ := run w R ρ a c ha hc
        rw [eqGuard_at_pointer]
        simp only [Sem.run_bind, Sem.run_pure, Result.andThen_ok]
        rcases hy with hy | hy | hy <;> simp only [binOp] <;> simp [h1]
      · refine fin (fun w R ρ a c ha hc => ⟨.bool (!b), ?_, .bool⟩) hk
        obtain ⟨h1, a', rfl⟩ := run w R ρ a c ha hc
        rw [eqGuard_at_pointer]
        simp only [Sem.run_bind, Sem.run_pure, Result.andThen_ok]
        rcases hy with hy | hy | hy <;> simp only [binOp] <;> simp [h1]
      · exact hk.elim
    split at hk
    · rename_i t1 u1 hx
      split at hk
      · rename_i a o
        obtain ⟨⟨m, hm⟩, hk⟩ := isIK_spec hT hk
        unfold ptrIK at hk
        split at hk
        · rename_i t2 u2 hy
          split at hk
          · rename_i hne
            have hne' : t1 ≠ t2 := fun e => by subst e; rw [Nat.beq_refl] at hne; cases hne
            obtain ⟨u, h1, h2⟩ := goK_iface (P := P) (X := x) (Y := y) hm hk
            refine fin (u := u) (fun w R ρ a c ha hc => ?_) h1
            rw [hx] at ha; rw [hy] at hc
            obtain ⟨y1, rfl, _⟩ := ha.of_ifc
            obtain ⟨y2, rfl, _⟩ := hc.of_ifc
            obtain ⟨z, h3, h4⟩ := h2 w _ _ (.inr ⟨_, _, rfl⟩) (by cases op <;> rfl) (fun d => eqIf_ne hm w _ hne' _ _)
            exact ⟨z, h3, h4 R ρ⟩
          · rename_i heq
            obtain rfl := Nat.eq_of_beq_eq_true heq
            split at hk
            · rename_i b p
              split at hk
              · rename_i hcmp
                obtain ⟨i, el, j, q1, q2, q3, q4, q5⟩ := hT.cmpP _ hcmp
                split at hk
                · rename_i hab
                  obtain rfl := Nat.eq_of_beq_eq_true hab
                  split at hk
                  · rename_i hop
                    obtain rfl := Nat.eq_of_beq_eq_true hop
                    obtain ⟨u, h1, h2⟩ := goK_iface (P := P) (X := x) (Y := y) hm hk
                    refine fin (u := u) (fun w R ρ a' c ha hc => ?_) h1
                    rw [hx] at ha; rw [hy] at hc
                    obtain ⟨y1, rfl, g1⟩ := ha.of_ifc
                    obtain ⟨y2, rfl, g2⟩ := hc.of_ifc
                    cases g1 with
                    | ptr r1 => cases g2 with
                      | ptr r2 =>
                        obtain rfl := RObj.blk.inj (Option.some.inj (r1.symm.trans r2))
                        obtain ⟨z, h3, h4⟩ := h2 w _ _ (.inr ⟨_, _, rfl⟩) (by cases op <;> rfl) (fun d => eqIf_ptr hm w d q1 q2 q3 q4 q5 _ _ (run_sameAddr_one w _))
                        exact ⟨z, h3, h4 R ρ⟩
                  · exact hk.elim
                · rename_i hab
                  have hab' : a ≠ b := fun e => by subst e; rw [Nat.beq_refl] at hab; cases hab
                  unfold liveK at hk
                  split at hk
                  · rename_i ca hla
                    split at hk
                    · rename_i cb hlb
                      obtain ⟨u, h1, h2⟩ := goK_iface (P := P) (X := x) (Y := y) hm hk
                      refine ⟨_, _, _, h1, fun h' hag R ρ ac w hs hr ht => ?_⟩
                      have ha := hr x (by simp [Op.operands])
                      have hc := hr y (by simp [Op.operands])
                      rw [hx] at ha; rw [hy] at hc
                      obtain ⟨y1, e1, g1⟩ := ha.of_ifc
                      obtain ⟨y2, e2, g2⟩ := hc.of_ifc
                      cases g1 with
                      | ptr r1 => cases g2 with
                        | ptr r2 =>
                          rename_i n1 n2
                          have l1 : h' a = some (.cells ca) := (hag a (by simp)).trans hla
                          have l2 : h' b = some (.cells cb) := (hag b (by simp)).trans hlb
                          obtain ⟨xs, ta, k1, _⟩ := hs.brep a _ _ r1 l1
                          obtain ⟨ys, tb, k2, _⟩ := hs.brep b _ _ r2 l2
                          have hnn : n1 ≠ n2 := fun e => hs.apart a b _ _ n1 hab' ⟨_, l1, by rintro (q | ⟨v, q⟩) <;> cases q⟩ ⟨_, l2, by rintro (q | ⟨v, q⟩) <;> cases q⟩ r1 r2 rfl (by rw [e]; rfl)
                          obtain ⟨z, h3, h4⟩ := h2 w (ac.eval x) (ac.eval y) (by rw [e1]; exact .inr ⟨_, _, rfl⟩) (by rw [e1]; cases op <;> rfl) (fun d => by rw [e1, e2]; exact eqIf_ptr hm w d q1 q2 q3 q4 q5 _ _ (run_sameAddr_apart hnn k1 k2))
                          have hrun : (execOp ac.eval ⟨dst, .binOp op t x y t', ty, pos, af, gd⟩).run P w = .ok (.value z) w := by
                            simp only [execOp, Sem.run_bind, Sem.run_pure] at h3 ⊢
                            rw [h3]
                            rfl
                          rw [hrun]
                          exact ⟨R, ρ, hs, ht, Ext.refl _ _ _, h4 R ρ⟩
                    · exact hk.elim
                  · exact hk.elim
              · exact hk.elim
            · exact hk.elim
        · rename_i z hy
          split at hk
          · obtain ⟨u, h1, h2⟩ := goK_iface (P := P) (X := x) (Y := y) hm hk
            refine fin (u := u) (fun w R ρ a' c ha hc => ?_) h1
            rw [hx] at ha; rw [hy] at hc
            obtain ⟨y1, rfl, _⟩ := ha.of_ifc
            rw [hc.of_val]
            obtain ⟨z, h3, h4⟩ := h2 w _ _ (.inr ⟨_, _, rfl⟩) (by cases op <;> rfl) (fun d => eqIf_nil2 hm w _ _ _)
            exact ⟨z, h3, h4 R ρ⟩
          · exact hk.elim
        · exact hk.elim
      · obtain ⟨⟨m, hm⟩, hk⟩ := isIK_spec hT hk
        obtain ⟨u, h1, h2⟩ := cmpK_spec hT hm hk
        exact fin (u := u) (by rw [hx]; exact h2) h1
    · rename_i z hx
      split at hk
      · obtain ⟨hp, hk⟩ := isPK_spec hT hk
        split at hk
        · rename_i hy
          exact ptrs hp (.inl hx) (.inl hy) (by rw [hx, hy]; rfl) (by rw [hx, hy]; rfl) hk
        · rename_i hy
          exact ptrs hp (.inl hx) (.inr (.inl ⟨_, _, hy⟩)) (by rw [hx, hy]; rfl) (by rw [hx, hy]; rfl) hk
        · rename_i hy
          exact ptrs hp (.inl hx) (.inr (.inr ⟨_, _, hy⟩)) (by rw [hx, hy]; rfl) (by rw [hx, hy]; rfl) hk
        · exact hk.elim
      · obtain ⟨⟨m, hm⟩, hk⟩ := isIK_spec hT hk
        obtain ⟨u, h1, h2⟩ := cmpK_spec hT hm hk
        exact fin (u := u) (by rw [hx]; exact h2) h1
    · rename_i hx
      obtain ⟨hp, hk⟩ := isPK_spec hT hk
      split at hk
      · rename_i hy
        exact ptrs hp (.inr (.inl ⟨_, _, hx⟩)) (.inl hy) (by rw [hx, hy]; rfl) (by rw [hx, hy]; rfl) hk
      · exact hk.elim
    · rename_i hx
      obtain ⟨hp, hk⟩ := isPK_spec hT hk
      split at hk
      · rename_i hy
        exact ptrs hp (.inr (.inr ⟨_, _, hx⟩)) (.inl hy) (by rw [hx, hy]; rfl) (by rw [hx, hy]; rfl) hk
      · exact hk.elim
    · rename_i b u v hx
      obtain ⟨⟨m, hm⟩, hk⟩ := isIK_spec hT hk
      split at hk
      · rename_i z hy
        split at hk
        · split at hk
          · rename_i hc
            obtain ⟨r, hk, hr⟩ := nilK_spec hk
            obtain ⟨u, h1, h2⟩ := nilcmp (P := P) hm hc hr hk
            exact fin (u := u) (by rw [hx, hy]; exact h2) h1
          · exact hk.elim
        · exact hk.elim
      · exact hk.elim
    · obtain ⟨u, h1, h2⟩ := binK_spec (P := P) hT hk
      exact fin (u := u) (fun w R ρ a b ha hb => h2 w R ρ x y a b ha hb) h1
  case unOp op t x =>
    simp only [opF] at hk
    split at hk
    · rename_i b hx
      exact zero (fun h => not_ok x hx) hk
    · rename_i k n hx
      exact zero (fun h => neg_ok x hx) (wrapK_spec hk)
    · exact hk.elim
  case convert src t x =>
    simp only [opF] at hk
    split at hk
    · rename_i ks zs hts
      split at hk
      · rename_i k z htd
        split at hk
        · rename_i k' n hx
          exact zero (fun h => convert_int_ok x (hT _ _ hts) (hT _ _ htd) hx) (wrapK_spec hk)
        · exact hk.elim
      · exact hk.elim
    · rename_i el E hts
      split at hk
      · rename_i zs htd
        split at hk
        · rename_i z hte
          split at hk
          · rename_i xs hx
            obtain ⟨l, hb, hk⟩ := hk
            obtain ⟨ns, rfl, rfl⟩ := hb.nums
            exact zero (fun h => convert_bytes_ok x (hT _ _ hts) (hT _ _ hte) (hT _ _ htd) hx) hk
          · rename_i a hx
            split at hk
            · rename_i el' xs ha
              obtain ⟨l, hb, hk⟩ := hk
              obtain ⟨ns, rfl, rfl⟩ := hb.nums
              exact ⟨_, _, _, hk, fun h1 hag => (convert_own_ok (c := 0) x (hT _ _ hts) (hT _ _ hte) (hT _ _ htd) hx ((hag a (by simp)).trans ha)).ok0⟩
            · exact hk.elim
          · exact hk.elim
        · exact hk.elim
      · exact hk.elim
    · rename_i zs hts
      split at hk
      · rename_i el E htd
        split at hk
        · rename_i z hte
          split at hk
          · rename_i l hx
            split at hk
            · rename_i hc0
              exact ⟨_, _, _, hk.2, fun h1' hag => (convert_str_ok (c := c) x (hT _ _ hts) (hT _ _ hte) (hT _ _ htd) hx hk.1).ok1 ((hag c (by simp)).trans hc0)⟩
            · exact hk.elim
          · exact hk.elim
        · exact hk.elim
      · exact hk.elim
    · exact hk.elim
  case fieldAddr t x f =>
    simp only [opF] at hk
    split at hk
    · rename_i fs zs hti
      obtain ⟨o, s, a, hf, hk⟩ := fieldK_spec hk
      split at hk
      · rename_i k off hx
        exact zero (fun h => fieldAddr_ok (hT t _ hti) x hf (.inl ⟨_, _, hx, rfl⟩)) hk
      · rename_i r off hx
        exact zero (fun h => fieldAddr_ok (hT t _ hti) x hf (.inr (.inl ⟨_, _, hx, rfl⟩))) hk
      · rename_i k E i off hx
        exact zero (fun h => fieldAddr_ok (hT t _ hti) x hf (.inr (.inr ⟨_, _, _, _, hx, rfl⟩))) hk
      · exact hk.elim
    · exact hk.elim
  case field t x f =>
    simp only [opF] at hk
    split at hk
    · rename_i fs zs hti
      obtain ⟨o, s, a, hf, hk⟩ := fieldK_spec hk
      split at hk
      · rename_i cs hx
        obtain ⟨v, hk, hv⟩ := partK_spec hk
        exact view (ls := []) (.of0 fun h => field_ok (hT t _ hti) x hf hx hv) hk
      · exact hk.elim
    · exact hk.elim
  case indexAddr t x i =>
    simp only [opF] at hk
    split at hk
    · rename_i el E hti
      split at hk
      · rename_i k n hi
        split at hk
        · rename_i xs hx
          obtain ⟨⟨h0, h1⟩, hk⟩ := hk
          have hlt : n.toNat < xs.length := by omega
          obtain ⟨hE, hk⟩ := hk xs[n.toNat] (by simp [hlt])
          exact zero (fun h => indexAddr_sl_ok (hT t _ hti) x i hx hi h0 (row := xs[n.toNat]) (by simp [hlt]) hE) hk
        · rename_i a hx
          split at hk
          · rename_i el' xs hb
            obtain ⟨⟨h0, h1⟩, hk⟩ := hk
            exact ⟨_, _, _, hk, fun h1' hag => (indexAddr_own_ok (c := 0) (hT t _ hti) x i hx ((hag a (by simp)).trans hb) hi h0 h1).ok0⟩
          · exact hk.elim
        · exact hk.elim
      · exact hk.elim
    · rename_i m el E zs hti
      split at hk
      · rename_i k n hi
        split at hk
        · rename_i a off hx
          obtain ⟨⟨h0, h1⟩, hk⟩ := hk
          exact zero (fun h => indexAddr_arr_ok (hT t _ hti) x i hi h0 h1 (.inl ⟨_, _, hx, rfl⟩)) hk
        · rename_i row off hx
          obtain ⟨⟨h0, h1⟩, hk⟩ := hk
          exact zero (fun h => indexAddr_arr_ok (hT t _ hti) x i hi h0 h1 (.inr ⟨_, _, hx, rfl⟩)) hk
        · exact hk.elim
      · exact hk.elim
    · exact hk.elim
  case index t x i =>
    simp only [opF] at hk
    split at hk
    · rename_i z hti
      split at hk
      · rename_i k n hi
        split at hk
        · rename_i l hx
          obtain ⟨⟨h0, h1⟩, hk⟩ := hk
          exact zero (fun h => index_ok (hT t _ hti) x i hx hi h0 h1) hk
        · exact hk.elim
      · exact hk.elim
    · exact hk.elim
  case extract x i =>
    simp only [opF] at hk
    split at hk
    · rename_i vs hx
      obtain ⟨v, h1, hk⟩ := nthK_spec _ _ hk
      exact view (ls := []) (.of0 fun h => extract_ok x hx h1) hk
    · exact hk.elim
  case build t parts =>
    simp only [opF] at hk
    split at hk
    · rename_i fs zs hti
      obtain ⟨cs, h1, h2⟩ := buildK_one hk
      refine zero (fun h => ?_) h1
      obtain ⟨cs', h3, h4⟩ := build_ok (cx := cx) (c := 0) (h := h) (dst := dst) (ty := ty) (pos := pos) (af := af) (gd := gd) (hT t _ hti) parts h2
      subst h3; exact h4
    · rename_i n el E zs hti
      split at hk
      · obtain ⟨cs, h1, h2⟩ := buildK_one hk
        refine zero (fun h => ?_) h1
        obtain ⟨cs', h3, h4⟩ := buildA_ok (cx := cx) (c := 0) (h := h) (dst := dst) (ty := ty) (pos := pos) (af := af) (gd := gd) (hT t _ hti) parts h2
        subst h3; exact h4
      · exact hk.elim
    · exact hk.elim
  case buildSlice t n parts =>
    simp only [opF] at hk
    split at hk
    · rename_i el E hti
      split at hk
      · rename_i hn0
        have := Nat.eq_of_beq_eq_true hn0
        subst this
        split at hk
        · rename_i hp
          split at hk
          · rename_i hc0
            exact ⟨_, _, _, hk, fun h1 hag => (buildSlice_nil_ok (c := c) (hT t _ hti) parts hp).ok1 ((hag c (by simp)).trans hc0)⟩
          · exact hk.elim
        · exact hk.elim
      obtain ⟨xs, hk, h1, h2, h3⟩ := rowsK_one hk
      obtain ⟨h4, hk⟩ := natK_spec hk
      split at hk
      · rename_i hb
        rcases hk with ⟨_, hk⟩ | ⟨_, hk⟩
        · refine zero (fun h => buildSlice_ok (hT t _ hti) parts h1 h2 h3 (by rw [← h4, h2]; simp) (Nat.le_of_ble_eq_true hb)) hk
        · split at hk
          · rename_i hc0
            exact ⟨_, _, _, hk, fun h1' hag => (buildSlice_own_ok (c := c) (hT t _ hti) parts h1 h2 h3 (by rw [← h4, h2]; simp) (Nat.le_of_ble_eq_true hb)).ok1 ((hag c (by simp)).trans hc0)⟩
          · exact hk.elim
      · exact hk.elim
    · exact hk.elim
  case makeSlice t x y =>
    simp only [opF] at hk
    split at hk
    · rename_i el E hti
      split at hk
      · rename_i ti hte
        split at hk
        · rename_i k1 n hx
          split at hk
          · rename_i k2 m hy
            split at hk
            · rename_i hc0
              obtain ⟨h1, ⟨hnm, h2, h3⟩, hk2⟩ := natK_spec hk
              subst hnm
              exact ⟨_, _, _, hk2, fun h1' hag => (makeSlice_ok (c := c) (hT t _ hti) (hT el _ hte) h1 x y hx hy h2 h3).ok1 ((hag c (by simp)).trans hc0)⟩
            · exact hk.elim
          · exact hk.elim
        · exact hk.elim
      · exact hk.elim
    · exact hk.elim
  case slice t x lo hi mx =>
    cases mx with
    | some m =>
      cases lo with
      | some l => cases hi <;> exact hk.elim
      | none =>
        cases hi with
        | none => exact hk.elim
        | some y =>
          simp only [opF] at hk
          split at hk
          · rename_i el E hti
            split at hk
            · rename_i k1 b hy
              split at hk
              · rename_i k2 m' hz
                split at hk
                · rename_i xs hx
                  split at hk
                  · rename_i hc0
                    obtain ⟨⟨rfl, rfl⟩, hk⟩ := hk
                    exact ⟨_, _, _, hk, fun h1' hag => (slice0_ok (c := c) (hT t _ hti) x y m hx hy hz).ok1 ((hag c (by simp)).trans hc0)⟩
                  · exact hk.elim
                · rename_i hx
                  obtain ⟨⟨rfl, rfl⟩, hk⟩ := hk
                  exact zero (fun h => slice0_nils_ok (c := 0) (hT t _ hti) x y m hx hy hz) hk
                · exact hk.elim
              · exact hk.elim
            · exact hk.elim
          · exact hk.elim
    | none =>
      simp only [opF] at hk
      split at hk
      · rename_i z hti
        split at hk
        · rename_i l hx
          obtain ⟨a, b, h1, h2⟩ := slice_str_ok (P := P) (cx := cx) (c := 0) (dst := dst) (ty := ty) (pos := pos) (af := af) (gd := gd) (hT t _ hti) x lo hi hx hk
          exact zero h2 h1
        · exact hk.elim
      · rename_i el E hti
        split at hk
        · rename_i xs hx
          obtain ⟨hl, hk⟩ := hk
          obtain ⟨a, b, h1, h2⟩ := slice_sl_ok (P := P) (cx := cx) (c := 0) (dst := dst) (ty := ty) (pos := pos) (af := af) (gd := gd) (hT t _ hti) x lo hi hx hl hk
          exact zero h2 h1
        · rename_i hx
          obtain ⟨a, b, h1, h2⟩ := slice_nils_ok (P := P) (cx := cx) (c := 0) (dst := dst) (ty := ty) (pos := pos) (af := af) (gd := gd) (hT t _ hti) x lo hi hx hk
          exact zero h2 h1
        · exact hk.elim
      · rename_i m el E zs hti
        split at hk
        · split at hk
          · rename_i hm
            have hm' := Nat.le_of_ble_eq_true hm
            obtain ⟨b, hb, hk, hrun⟩ := hiK_spec (P := P) hk
            split at hk
            · rename_i row off hx
              obtain ⟨hl, hk⟩ := rowsOfK_spec hk
              exact zero (fun h => slice_arr_ok (hT t _ hti) hm' x hi hl hb hrun (.inl hx)) hk
            · rename_i a off hx
              split at hk
              · rename_i u hb'
                split at hk
                · obtain ⟨hl, hk⟩ := rowsOfK_spec hk
                  exact ⟨_, _, _, hk, fun h1' hag => (slice_arr_ok (c := 0) (hT t _ hti) hm' x hi hl hb hrun (.inr ⟨_, hx, (hag a (by simp)).trans hb'⟩)).ok0⟩
                · exact hk.elim
              · exact hk.elim
            · exact hk.elim
          · exact hk.elim
        · exact hk.elim
      · exact hk.elim
  case makeInterface t x =>
    simp only [opF] at hk
    split at hk
    · exact hk.elim
    · rename_i ti hn hti
      exact zero (fun h => makeInterface_ok (hT t ti hti) hn x) (forceK_iff.1 hk)
    · exact hk.elim
  case makeFunc f first caps =>
    cases f <;> try exact hk.elim
    rename_i f
    simp only [opF] at hk
    split at hk
    · rename_i hf
      have : first = #[] := by apply Array.ext'; simpa using hf
      subst this
      exact zero (fun h => makeFunc_ok f caps) (forcesK_spec _ _ hk)
    · exact hk.elim
  case typeAssert x xt t ok =>
    simp only [opF] at hk
    have fin : ∀ {u : V}, (∀ (w : World) R ρ (a : Value), Rep w R ρ (e.rd x) a → ∃ r, (Instr.typeAssert a xt t ok).run P w = .ok r w ∧ Rep w R ρ u r) → K u [] [] → ∃ v rs ws, K v rs ws ∧ Does P cx ⟨dst, .typeAssert x xt t ok, ty, pos, af, gd⟩ e h v rs ws := fun {u} h2 h1 => by
      refine zero (fun h => .of_val fun R ρ a w hs hr => ?_) h1
      obtain ⟨r, h3, h4⟩ := h2 w R ρ _ (hr x (by simp [Op.operands]))
      refine ⟨r, ?_, h4⟩
      simp only [execOp, Sem.run_bind, Sem.run_pure, h3]
      rfl
    have pair : ∀ {w : World} {R : Nat → Prop} {ρ : Rho} {u v : V} {a b : Value}, Rep w R ρ u a → Rep w R ρ v b → Rep w R ρ (.tup [u, v]) (.tuple #[a, b]) := fun h1 h2 => by
      have := Reps.cons h1 (.cons h2 .nil)
      exact .tup this.1 this.2
    split at hk
    · rename_i hti
      obtain ⟨d, hd, hkd⟩ := tiOk_kind (hT t _ hti)
      have hz0 := hT t _ hti
      simp only [tiOkB, hd] at hz0
      cases d <;> simp [kindB] at hkd
      rename_i m
      have zero' : ∃ i, P.info? t = some i ∧ i.zero = some .nilIface := by
        split at hz0
        · rename_i dd i h1 h2
          cases h1
          simp only [Bool.and_eq_true] at hz0
          obtain ⟨_, h4⟩ := hz0
          split at h4
          · rename_i z hz
            refine ⟨i, h2, ?_⟩
            rw [hz, zB_nilIface h4]
          · cases h4
        · cases hz0
      obtain ⟨i, hi, hz⟩ := zero'
      split at hk
      · rename_i t1 v hx
        split at hk
        · rename_i himp
          obtain ⟨want, j, q1, q2, q3⟩ := hT.imp _ _ _ himp
          rw [hd] at q1; cases q1
          have q3' : Instr.missingMethod m j.methods = none := by simpa using q3
          split at hk
          · refine fin (fun w R ρ a ha => ?_) hk
            rw [hx] at ha
            obtain ⟨y, rfl, h2⟩ := ha.of_ifc
            exact ⟨_, by simp [Instr.typeAssert, run_underlying hd, typeInfo, q2, q3'], pair (.ifc h2) .bool⟩
          · refine fin (fun w R ρ a ha => ?_) hk
            rw [hx] at ha
            obtain ⟨y, rfl, h2⟩ := ha.of_ifc
            exact ⟨_, by simp [Instr.typeAssert, run_underlying hd, typeInfo, q2, q3'], .ifc h2⟩
        · rename_i himp
          obtain ⟨want, j, q1, q2, q3⟩ := hT.imp _ _ _ himp
          rw [hd] at q1; cases q1
          obtain ⟨mm, q3'⟩ : ∃ mm, Instr.missingMethod m j.methods = some mm := by
            cases hq : Instr.missingMethod m j.methods with
            | none => rw [hq] at q3; cases q3
            | some mm => exact ⟨mm, rfl⟩
          split at hk
          · refine fin (fun w R ρ a ha => ?_) hk
            rw [hx] at ha
            obtain ⟨y, rfl, h2⟩ := ha.of_ifc
            exact ⟨_, by simp [Instr.typeAssert, run_underlying hd, typeInfo, q2, q3', zeroValue, hi, hz], pair (.val rfl) .bool⟩
          · exact hk.elim
        · exact hk.elim
      · rename_i hx
        split at hk
        · refine fin (fun w R ρ a ha => ?_) hk
          rw [hx] at ha
          rw [ha.of_val]
          exact ⟨_, by simp [Instr.typeAssert, run_underlying hd, typeInfo, zeroValue, hi, hz], pair (.val rfl) .bool⟩
        · exact hk.elim
      · exact hk.elim
    · rename_i ti hni hti
      obtain ⟨d, hd, hnd⟩ := tiOk_noIface (hT t _ hti) hni
      obtain ⟨d', i, z, hd', hi, hag, hsz, hz, hone, hrep⟩ := tiOk_any (hT t _ hti)
      rw [hd] at hd'; cases hd'
      have zv : ∀ w, (zeroValue t).run P w = .ok z w := fun w => by simp [zeroValue, typeInfo, hi, hz]
      split at hk
      · rename_i t1 v hx
        split at hk
        · rename_i htt
          have htt := Nat.eq_of_beq_eq_true htt
          subst htt
          split at hk
          · refine fin (fun w R ρ a ha => ?_) hk
            rw [hx] at ha
            obtain ⟨y, rfl, h2⟩ := ha.of_ifc
            refine ⟨_, ?_, pair h2 .bool⟩
            cases d <;> first | exact absurd rfl (hnd _) | simp [Instr.typeAssert, run_underlying hd]
          · refine fin (fun w R ρ a ha => ?_) (forceK_iff.1 hk)
            rw [hx] at ha
            obtain ⟨y, rfl, h2⟩ := ha.of_ifc
            refine ⟨_, ?_, h2⟩
            cases d <;> first | exact absurd rfl (hnd _) | simp [Instr.typeAssert, run_underlying hd]
        · rename_i htt
          have hne : t1 ≠ t := fun e => by subst e; rw [Nat.beq_refl] at htt; cases htt
          split at hk
          · refine fin (fun w R ρ a ha => ?_) (forceK_iff.1 hk)
            rw [hx] at ha
            obtain ⟨y, rfl, h2⟩ := ha.of_ifc
            refine ⟨_, ?_, pair (hrep w R ρ).1 .bool⟩
            cases d <;> first | exact absurd rfl (hnd _) | simp [Instr.typeAssert, run_underlying hd, hne, zv]
          · exact hk.elim
      · rename_i hx
        split at hk
        · refine fin (fun w R ρ a ha => ?_) (forceK_iff.1 hk)
          rw [hx] at ha
          rw [ha.of_val]
          refine ⟨_, ?_, pair (hrep w R ρ).1 .bool⟩
          cases d <;> first | exact absurd rfl (hnd _) | simp [Instr.typeAssert, run_underlying hd, zv]
        · exact hk.elim
      · exact hk.elim
    · exact hk.elim
  case call q =>
    obtain ⟨callee, args, argTypes⟩ := q
    simp only [opF] at hk
    cases callee with
    | invoke x m =>
      simp only at hk
      split at hk
      · rename_i t v hx
        split at hk
        · rename_i f first hm
          split at hk
          · exact callK_ok hC (callee_invoke hT rfl hx hm) (forceK_iff.1 (forcesK_spec _ _ hk))
          · split at hk
            · split at hk
              · exact callK_ok hC (callee_invoke1 hT rfl hx hm) (forceK_iff.1 (forcesK_spec _ _ hk))
              · exact hk.elim
            · exact hk.elim
        · exact hk.elim
      · exact hk.elim
    | value fo =>
      simp only at hk
      split at hk
      · rename_i f caps hf
        exact callK_ok hC (callee_value rfl hf) (appK_spec _ _ _ (forcesK_spec _ _ hk))
      · exact hk.elim
    | builtin b =>
      simp only at hk
      split at hk
      · rename_i x ha
        cases lst ha
        split at hk
        · rename_i t hta
          cases lst hta
          obtain ⟨n, ks, h1, h2⟩ := len_ok (P := P) (cx := cx) (dst := dst) (ty := ty) (pos := pos) (af := af) (gd := gd) hT x hk
          exact ⟨_, _, _, h1, h2⟩
        · exact hk.elim
      · rename_i x y ha
        cases lst ha
        split at hk
        · rename_i k a k' b hx hy
          split at hk
          · rename_i hkk
            cases sameK_spec hkk
            exact zero (fun h => min_int_ok x y hx hy) hk
          · exact hk.elim
        · rename_i a b hx hy
          exact zero (fun h => min_str_ok x y hx hy) hk
        · exact hk.elim
      · rename_i x y ha
        cases lst ha
        split at hk
        · rename_i k a k' b hx hy
          split at hk
          · rename_i hkk
            cases sameK_spec hkk
            exact zero (fun h => max_int_ok x y hx hy) hk
          · exact hk.elim
        · rename_i a b hx hy
          exact zero (fun h => max_str_ok x y hx hy) hk
        · exact hk.elim
      · rename_i x y ha
        cases lst ha
        split at hk
        · rename_i t t' hta
          cases lst hta
          split at hk
          · rename_i el E hti htt
            cases Nat.eq_of_beq_eq_true htt
            split at hk
            · exact hk.elim
            · rename_i hc0
              split at hk
              · rename_i ys hx hy
                obtain ⟨h1, h2, hk⟩ := hk
                exact ⟨_, _, _, hk, fun h1' hag => append_ok (fs := []) ((hag c (by simp)).trans hc0) (hT t _ hti) x y (.inl hy) (.inl ⟨hx, rfl, rfl⟩) h1 h2⟩
              · rename_i hx hy
                exact zero (fun h => append_nn_ok (hT t _ hti) x y hx hy) hk
              · rename_i a ys hx hy
                split at hk
                · rename_i el' xs hb
                  obtain ⟨rfl, h1, h2, hk⟩ := natK_spec hk
                  exact ⟨_, _, _, hk, fun h1' hag => append_ok (fs := [(a, .dead)]) ((hag c (by simp)).trans hc0) (hT t _ hti) x y (.inl hy) (.inr ⟨a, hx, (hag a (by simp)).trans hb, rfl⟩) h1 h2⟩
                · exact hk.elim
              · rename_i b hx hy
                split at hk
                · rename_i el' ys hb
                  obtain ⟨h1, h2, hk⟩ := hk
                  exact ⟨_, _, _, hk, fun h1' hag => append_ok (fs := []) ((hag c (by simp)).trans hc0) (hT t _ hti) x y (.inr (.inr ⟨b, _, hy, (hag b (by simp)).trans hb, by rw [hx]; simp⟩)) (.inl ⟨hx, rfl, rfl⟩) h1 h2⟩
                · exact hk.elim
              · rename_i a b hx hy
                split at hk
                · exact hk.elim
                · rename_i hne
                  split at hk
                  · rename_i el' xs ha
                    split at hk
                    · rename_i el2 ys hb
                      obtain ⟨rfl, h1, h2, hk⟩ := natK_spec hk
                      exact ⟨_, _, _, hk, fun h1' hag => append_ok (fs := [(a, .dead)]) ((hag c (by simp)).trans hc0) (hT t _ hti) x y (.inr (.inr ⟨b, _, hy, (hag b (by simp)).trans hb, by rw [hx]; intro hh; cases hh; rw [Nat.beq_refl] at hne; cases hne⟩)) (.inr ⟨a, hx, (hag a (by simp)).trans ha, rfl⟩) h1 h2⟩
                    · exact hk.elim
                  · exact hk.elim
              · rename_i a hx hy
                split at hk
                · rename_i el' xs hb
                  obtain ⟨rfl, h1, h2, hk⟩ := natK_spec hk
                  exact ⟨_, _, _, hk, fun h1' hag => append_ok (fs := [(a, .dead)]) ((hag c (by simp)).trans hc0) (hT t _ hti) x y (.inr (.inl ⟨hy, rfl⟩)) (.inr ⟨a, hx, (hag a (by simp)).trans hb, rfl⟩) h1 h2⟩
                · exact hk.elim
              · exact hk.elim
          · exact hk.elim
        · exact hk.elim
      · exact hk.elim
end
end Go.Proofs.YthchmjdgepbjpaaDoor

-- tabvar