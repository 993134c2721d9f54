/-
  Whatever AbsDef's walk says of an operation, the operation does: all operations together. No conditions.
-/
import Derived.Test.YthcbffejjkmmfaaAbsOp8
namespace Go.Proofs.Ythcbffejjkmmfaa
open Go.RowKit
set_option linter.unusedSimpArgs false
set_option linter.unusedVariables false

section
variable {P : Program} {cx : Cx} {h h' : Hp} {w w' : World} {R : Nat → Prop} {ρ : Rho} {c : Nat} {v : V} {x : Value} {e : Env} {T : Tab} {C : FuncId → List V → V → Prop}

/-- what is asked of an operation: what it yields, what it leaves; if it is calm: that it only makes memory -/
structure Step (P : Program) (cx : Cx) (c : Nat) (o : Oper) (e : Env) (h : Hp) (v : V) (h' : Hp) : Prop where
  ok : OpOk P cx c o e h v h'
  mono : ∀ k, h k ≠ none → h' k ≠ none
  store : ∀ t x y, o.op = .store t x y → ∃ k b, h' = h.set k (some b) ∧ StoreOk P cx o e h k b ∧ v = .und ∧ ((∃ off, e.rd x = .ptr k off) ∨ ∃ E i off, e.rd x = .oelt k E i off)
  calm : cls o.op < 2 → ∃ hb, h' = h.setO c hb ∧ (hb ≠ none → h c = none) ∧ CalmOk P cx c o e h v hb
theorem Hp.mono_set (h : Hp) (k : Nat) (b : Blk) : ∀ j, h j ≠ none → h.set k (some b) j ≠ none := fun j hj => by
  by_cases e : j = k
  · subst e; rw [Hp.set_same]; simp
  · rw [Hp.set_other h _ e]; exact hj
theorem Step.of0 {o : Oper} (hns : ∀ t x y, o.op ≠ .store t x y) (H : CalmOk P cx c o e h v none) : Step P cx c o e h v h := ⟨CalmOk.ok (hb := none) (fun h => absurd rfl h) H, fun _ h => h, fun t x y ho => absurd ho (hns t x y), fun _ => ⟨none, rfl, fun h => absurd rfl h, H⟩⟩
theorem Step.of1 {o : Oper} {b : Blk} (hns : ∀ t x y, o.op ≠ .store t x y) (hc : h c = none) (H : CalmOk P cx c o e h v (some b)) : Step P cx c o e h v (h.set c (some b)) := ⟨CalmOk.ok (hb := some b) (fun _ => hc) H, Hp.mono_set h c b, fun t x y ho => absurd ho (hns t x y), fun _ => ⟨some b, rfl, fun _ => hc, H⟩⟩
theorem Step.of2 {o : Oper} (hns : ∀ t x y, o.op ≠ .store t x y) (hc : cls o.op = 2) (hm : ∀ k, h k ≠ none → h' k ≠ none) (H : OpOk P cx c o e h v h') : Step P cx c o e h v h' := ⟨H, hm, fun t x y ho => absurd ho (hns t x y), fun h0 => by omega⟩
theorem Step.of3 {o : Oper} {t : TypeId} {x y : Operand} {k : Nat} {b : Blk} (ho : o.op = .store t x y) (H : StoreOk P cx o e h k b) (hk : (∃ off, e.rd x = .ptr k off) ∨ ∃ E i off, e.rd x = .oelt k E i off) : Step P cx c o e h .und (h.set k (some b)) :=
  ⟨H.ok, Hp.mono_set h k b, fun t' x' y' ho' => by rw [ho] at ho'; cases ho'; exact ⟨k, b, rfl, H, rfl, hk⟩, fun h0 => by rw [ho] at h0; simp [cls] at h0⟩

theorem cls_append {x y : Operand} {ts : Array TypeId} {a : Nat} (hx : e.rd x = .own a) : cls (.call { callee := .builtin .append, args := #[x, y], argTypes := ts }) = 2 := by
  unfold cls
  simp only
  split
  · rename_i h; simp at h; obtain ⟨rfl, _⟩ := h; simp [Env.rd, V.ofConst, V.ofAtom] at hx
  · rfl
theorem opK_sound (hT : TabOk P T) (hC : ∀ f args r, C f args r → Fn P f args r) (o : Oper) {K : V → Hp → Prop} (hk : opK C T c o e h K) :
    ∃ v h', Step P cx c o e h v h' ∧ K v h' := by
  obtain ⟨dst, op, ty, pos, af, gd⟩ := o
  have zero : ∀ {o : Oper} {v : V}, (∀ h, CalmOk P cx c o e h v none) → K v h → (hns : ∀ t x y, o.op ≠ .store t x y := by intros; simp) → ∃ v h', Step P cx c o e h v h' ∧ K v h' := fun H hK hns => ⟨_, _, Step.of0 hns (H h), hK⟩
  cases op <;> try exact hk.elim
  case move x => simp only [opK] at hk; exact zero (fun h => move_ok x) (forceK_iff.1 hk)
  case assign x => simp only [opK] at hk; exact zero (fun h => assign_ok x) (forceK_iff.1 hk)
  case pick q a b =>
    simp only [opK] at hk
    split at hk
    · rename_i t hq
      rcases hk.cases with ⟨rfl, hk'⟩ | ⟨rfl, hk'⟩
      · exact zero (fun h => by simpa using pick_ok q a b hq) (forceK_iff.1 hk')
      · exact zero (fun h => by simpa using pick_ok q a b hq) (forceK_iff.1 hk')
    · exact hk.elim
  case alloc t =>
    simp only [opK] at hk
    split at hk
    · rename_i ti hti
      split at hk
      · rename_i hn
        exact ⟨_, _, Step.of1 (by intros; simp) hn (alloc_ok (hT t ti hti)), hk⟩
      · exact hk.elim
    · exact hk.elim
  case box t x =>
    simp only [opK] at hk
    split at hk
    · rename_i ti hti
      split at hk
      · rename_i hc0
        obtain ⟨h1, hk⟩ := innerK_spec hk
        obtain ⟨h2, hk⟩ := natK_spec hk
        exact ⟨_, _, Step.of2 (by intros; simp) rfl (Hp.mono_set _ _ _) (box_ok x hc0 h1), hk⟩
      · exact hk.elim
    · exact hk.elim
  case load t x =>
    simp only [opK] at hk
    split at hk
    · rename_i ti hti
      split at hk
      · rename_i a off hx
        split at hk
        · rename_i cs hb
          obtain ⟨v, hk, hv⟩ := partK_spec hk
          exact ⟨_, _, Step.of0 (by intros; simp) (load_ptr_ok (hT t ti hti) x hx hb hv), hk⟩
        · exact hk.elim
      · rename_i row off hx
        obtain ⟨v, hk, hv⟩ := partK_spec hk
        exact ⟨_, _, Step.of0 (by intros; simp) (load_elt_ok (hT t ti hti) x hx hv), hk⟩
      · rename_i a E i off hx
        split at hk
        · rename_i el xs hb
          obtain ⟨hi, hk⟩ := hk
          obtain ⟨hE, hk⟩ := hk xs[i] (by simp [hi])
          obtain ⟨v, hk, hv⟩ := partK_spec hk
          exact ⟨_, _, Step.of0 (by intros; simp) (load_oelt_ok (hT t ti hti) x hx hb (row := xs[i]) (by simp [hi]) hE hv), hk⟩
        · exact hk.elim
      · exact hk.elim
    · exact hk.elim
  case store t x y =>
    simp only [opK] at hk
    split at hk
    · rename_i ti hti
      split at hk
      · rename_i a off hx
        split at hk
        · rename_i cs hb
          obtain ⟨h1, hk⟩ := innerK_spec hk
          obtain ⟨h2, hk⟩ := natK_spec hk
          obtain ⟨h3, hk⟩ := writeK_spec _ _ _ _ hk
          exact ⟨_, _, Step.of3 rfl (store_ptr_ok (hT t ti hti) x y hx hb h1 h2 h3) (.inl ⟨_, hx⟩), hk⟩
        · exact hk.elim
      · rename_i a E i off hx
        split at hk
        · rename_i el xs hb
          obtain ⟨h1, hk⟩ := innerK_spec hk
          obtain ⟨h0, hk⟩ := klK_spec hk
          obtain ⟨h2, hk⟩ := natK_spec hk
          obtain ⟨hi, hk⟩ := hk
          obtain ⟨hE, hk⟩ := hk xs[i] (by simp [hi])
          obtain ⟨h3, hk⟩ := writeK_spec _ _ _ _ hk
          exact ⟨_, _, Step.of3 rfl (store_oelt_ok (hT t ti hti) x y hx hb (row := xs[i]) (by simp [hi]) hE h1 h0 h2 h3) (.inr ⟨_, _, _, hx⟩), hk⟩
        · exact hk.elim
      · exact hk.elim
    · exact hk.elim
  case nilCheck x =>
    simp only [opK] at hk
    have fin : ∀ {v : V}, e.rd x = v → (∀ w R ρ y, Rep w R ρ v y → (y ≠ .pointer none ∧ y ≠ .nilIface ∧ y ≠ .nilFunc ∧ ∀ n a b, y ≠ .func (.method n) a b)) → ∀ h, CalmOk P cx c ⟨dst, .nilCheck x, ty, pos, af, gd⟩ e h v none := fun {v} hx hn h => .of_val fun R ρ ac w hs hr => by
      have g := hr x (by simp [Op.operands])
      rw [hx] at g
      obtain ⟨n1, n2, n3, n4⟩ := hn w R ρ _ g
      refine ⟨ac.eval x, ?_, g⟩
      simp only [execOp]
      generalize ac.eval x = y at n1 n2 n3 n4
      cases y <;> first
        | rfl
        | exact absurd rfl n3
        | exact absurd rfl n2
        | (rename_i a; cases a <;> first | rfl | exact absurd rfl n1)
        | (rename_i f _ _; cases f <;> first | rfl | exact absurd rfl (n4 _ _ _))
    split at hk
    · rename_i a off hx
      exact zero (fin hx fun w R ρ y hr => by cases hr; simp) hk
    · rename_i r off hx
      exact zero (fin hx fun w R ρ y hr => by cases hr; simp) hk
    · rename_i t u hx
      exact zero (fin hx fun w R ρ y hr => by cases hr; simp) hk
    · exact hk.elim
  case binOp op t x y t' =>
    simp only [opK] at hk
    have key : ∀ h, ∃ u, K u h → True := fun _ => ⟨.any, fun _ => trivial⟩
    obtain ⟨u, h1, h2⟩ := binK_spec (P := P) hT hk
    refine zero (fun h => .of_val fun R ρ a w hs hr => ?_) h1
    obtain ⟨r, h3, h4⟩ := h2 w R ρ x y _ _ (hr x (by simp [Op.operands])) (hr y (by simp [Op.operands]))
    refine ⟨r, ?_, h4⟩
    simp only [execOp, Sem.run_bind, Sem.run_pure] at h3 ⊢
    rw [h3]
    rfl
  case unOp op t x =>
    simp only [opK] at hk
    split at hk
    · rename_i b hx
      exact zero (fun h => not_ok x hx) hk
    · rename_i k n hx
      exact zero (fun h => neg_ok x hx) (wrapK_spec hk)
    · exact hk.elim
  case fieldAddr t x f =>
    simp only [opK] at hk
    split at hk
    · rename_i fs zs hti
      obtain ⟨o, s, a, hf, hk⟩ := fieldK_spec hk
      split at hk
      · rename_i k off hx
        exact zero (fun h => fieldAddr_ok (hT t _ hti) x hf (.inl ⟨_, _, hx, rfl⟩)) hk
      · rename_i r off hx
        exact zero (fun h => fieldAddr_ok (hT t _ hti) x hf (.inr (.inl ⟨_, _, hx, rfl⟩))) hk
      · rename_i k E i off hx
        exact zero (fun h => fieldAddr_ok (hT t _ hti) x hf (.inr (.inr ⟨_, _, _, _, hx, rfl⟩))) hk
      · exact hk.elim
    · exact hk.elim
  case field t x f =>
    simp only [opK] at hk
    split at hk
    · rename_i fs zs hti
      obtain ⟨o, s, a, hf, hk⟩ := fieldK_spec hk
      split at hk
      · rename_i cs hx
        obtain ⟨v, hk, hv⟩ := partK_spec hk
        exact zero (fun h => field_ok (hT t _ hti) x hf hx hv) hk
      · exact hk.elim
    · exact hk.elim
  case indexAddr t x i =>
    simp only [opK] at hk
    split at hk
    · rename_i el E hti
      split at hk
      · rename_i k n hi
        split at hk
        · rename_i xs hx
          obtain ⟨⟨h0, h1⟩, hk⟩ := hk
          have hlt : n.toNat < xs.length := by omega
          obtain ⟨hE, hk⟩ := hk xs[n.toNat] (by simp [hlt])
          exact ⟨_, _, Step.of0 (by intros; simp) (indexAddr_sl_ok (hT t _ hti) x i hx hi h0 (row := xs[n.toNat]) (by simp [hlt]) hE), hk⟩
        · rename_i a hx
          split at hk
          · rename_i el' xs hb
            obtain ⟨⟨h0, h1⟩, hk⟩ := hk
            exact ⟨_, _, Step.of0 (by intros; simp) (indexAddr_own_ok (hT t _ hti) x i hx hb hi h0 h1), hk⟩
          · exact hk.elim
        · exact hk.elim
      · exact hk.elim
    · exact hk.elim
  case index t x i =>
    simp only [opK] at hk
    split at hk
    · rename_i z hti
      split at hk
      · rename_i k n hi
        split at hk
        · rename_i l hx
          obtain ⟨⟨h0, h1⟩, hk⟩ := hk
          exact zero (fun h => index_ok (hT t _ hti) x i hx hi h0 h1) hk
        · exact hk.elim
      · exact hk.elim
    · exact hk.elim
  case extract x i =>
    simp only [opK] at hk
    split at hk
    · rename_i vs hx
      obtain ⟨v, h1, hk⟩ := nthK_spec _ _ hk
      exact zero (fun h => extract_ok x hx h1) (forceK_iff.1 hk)
    · exact hk.elim
  case build t parts =>
    simp only [opK] at hk
    split at hk
    · rename_i fs zs hti
      obtain ⟨cs, h1, h2⟩ := buildK_one hk
      refine zero (fun h => ?_) h1
      obtain ⟨cs', h3, h4⟩ := build_ok (cx := cx) (c := c) (h := h) (dst := dst) (ty := ty) (pos := pos) (af := af) (gd := gd) (hT t _ hti) parts h2
      subst h3; exact h4
    · exact hk.elim
  case buildSlice t n parts =>
    simp only [opK] at hk
    split at hk
    · rename_i el E hti
      obtain ⟨xs, hk, h1, h2, h3⟩ := rowsK_one hk
      obtain ⟨h4, hk⟩ := natK_spec hk
      split at hk
      · rename_i hb
        refine zero (fun h => buildSlice_ok (hT t _ hti) parts h1 h2 h3 (by rw [← h4, h2]; simp) (Nat.le_of_ble_eq_true hb)) hk
      · exact hk.elim
    · exact hk.elim
  case slice t x lo hi mx =>
    cases mx with
    | some m => exact hk.elim
    | none =>
      simp only [opK] at hk
      split at hk
      · rename_i z hti
        split at hk
        · rename_i l hx
          obtain ⟨a, b, h1, h2⟩ := slice_str_ok (P := P) (cx := cx) (c := c) (dst := dst) (ty := ty) (pos := pos) (af := af) (gd := gd) (hT t _ hti) x lo hi hx hk
          exact zero h2 h1
        · exact hk.elim
      · rename_i el E hti
        split at hk
        · rename_i xs hx
          obtain ⟨hl, hk⟩ := hk
          obtain ⟨a, b, h1, h2⟩ := slice_sl_ok (P := P) (cx := cx) (c := c) (dst := dst) (ty := ty) (pos := pos) (af := af) (gd := gd) (hT t _ hti) x lo hi hx hl hk
          exact zero h2 h1
        · rename_i hx
          obtain ⟨a, b, h1, h2⟩ := slice_nils_ok (P := P) (cx := cx) (c := c) (dst := dst) (ty := ty) (pos := pos) (af := af) (gd := gd) (hT t _ hti) x lo hi hx hk
          exact zero h2 h1
        · exact hk.elim
      · exact hk.elim
  case makeInterface t x =>
    simp only [opK] at hk
    split at hk
    · exact hk.elim
    · rename_i ti hn hti
      exact zero (fun h => makeInterface_ok (hT t ti hti) hn x) (forceK_iff.1 hk)
    · exact hk.elim
  case makeFunc f first caps =>
    cases f <;> try exact hk.elim
    rename_i f
    simp only [opK] at hk
    split at hk
    · rename_i hf
      have : first = #[] := by apply Array.ext'; simpa using hf
      subst this
      exact zero (fun h => makeFunc_ok f caps) (forcesK_spec _ _ hk)
    · exact hk.elim
  case call q =>
    obtain ⟨callee, args, argTypes⟩ := q
    simp only [opK] at hk
    cases callee with
    | invoke r m => exact hk.elim
    | value fo =>
      simp only at hk
      split at hk
      · rename_i f hf
        obtain ⟨h1, r, h2, hk⟩ := kllK_spec (forcesK_spec _ _ hk)
        exact zero (fun h => call_ok (caps := []) rfl hf (by simpa using h1) (by simpa using hC _ _ _ h2)) hk
      · rename_i f c0 caps hf
        obtain ⟨h1, r, h2, hk⟩ := kllK_spec (forcesK_spec _ _ hk)
        exact zero (fun h => call_ok rfl hf h1 (hC _ _ _ h2)) hk
      · exact hk.elim
    | builtin b =>
      simp only at hk
      have lst : ∀ {α : Type} {a : Array α} {l : List α}, a.toList = l → a = l.toArray := fun h => by apply Array.ext'; simpa using h
      split at hk
      · rename_i x ha
        cases lst ha
        split at hk
        · rename_i t hta
          cases lst hta
          obtain ⟨n, h1, h2⟩ := len_ok (P := P) (cx := cx) (c := c) (dst := dst) (ty := ty) (pos := pos) (af := af) (gd := gd) hT x hk
          exact ⟨_, _, Step.of0 (by intros; simp) h2, h1⟩
        · exact hk.elim
      · rename_i x y ha
        cases lst ha
        split at hk
        · rename_i k a k' b hx hy
          split at hk
          · rename_i hkk
            cases sameK_spec hkk
            exact zero (fun h => min_int_ok x y hx hy) hk
          · exact hk.elim
        · rename_i a b hx hy
          exact zero (fun h => min_str_ok x y hx hy) hk
        · exact hk.elim
      · rename_i x y ha
        cases lst ha
        split at hk
        · rename_i k a k' b hx hy
          split at hk
          · rename_i hkk
            cases sameK_spec hkk
            exact zero (fun h => max_int_ok x y hx hy) hk
          · exact hk.elim
        · rename_i a b hx hy
          exact zero (fun h => max_str_ok x y hx hy) hk
        · exact hk.elim
      · rename_i x y ha
        cases lst ha
        split at hk
        · rename_i t t' hta
          cases lst hta
          split at hk
          · rename_i el E hti htt
            cases Nat.eq_of_beq_eq_true htt
            split at hk
            · exact hk.elim
            · rename_i hc0
              split at hk
              · rename_i ys hx hy
                obtain ⟨h1, h2, hk⟩ := hk
                exact ⟨_, _, Step.of1 (by intros; simp) hc0 (append_nil_ok (hT t _ hti) x y hy hx h1 (by simpa using h2)), by simpa using hk⟩
              · rename_i a ys hx hy
                split at hk
                · rename_i el' xs hb
                  obtain ⟨rfl, h1, h2, hk⟩ := natK_spec hk
                  exact ⟨_, _, Step.of2 (by intros; simp) (cls_append hx) (fun k hk => Hp.mono_set _ _ _ k (Hp.mono_set _ _ _ k hk)) (append_ok hc0 (hT t _ hti) x y hy (.inr ⟨a, hx, hb, rfl⟩) h1 h2), hk⟩
                · exact hk.elim
              · exact hk.elim
          · exact hk.elim
        · exact hk.elim
      · exact hk.elim
end
end Go.Proofs.Ythcbffejjkmmfaa
