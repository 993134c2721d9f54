/-
  A call does what its contract says: those that make memory alone, lent values, lists that are given up, those that write. No conditions.
-/
import Derived.Test.YthchmjdgepbjpaaDoorAbsCall
namespace Go.Proofs.YthchmjdgepbjpaaDoor
open Go.RowKit
set_option linter.unusedSimpArgs false
set_option linter.unusedVariables false

/-- A CONTRACT OF A CALL THAT WRITES: pre: the blocks that it is handed, numbered from 0 on; post: what they hold behind it, and the new ones behind these -/
structure FnM [Inhabited TabT] (P : Program) (f : FuncId) (args : List V) (pre : List Blk) (r : V) (post : List Blk) : Prop where
  run : ∀ (cx : Cx) (w : World) (R : Nat → Prop) (ρ : Rho) (xs : List Value), St P cx (hpL pre) w R ρ → There (hpL pre) ρ → Reps w R ρ args xs →
    Upon P (fun x w' => ∃ R' ρ', St P cx (hpL post) w' R' ρ' ∧ There (hpL post) ρ' ∧ Ext w R ρ w' R' ρ' ∧ Rep w' R' ρ' r x) ((callFunc f xs.toArray).run P w)
structure ConsOk [Inhabited TabT] (P : Program) (C : Cons) : Prop where
  p : ∀ f args r, C.p f args r → Fn P f args r
  m : ∀ f args pre r post, C.m f args pre r post → FnM P f args pre r post
/-- the operation calls f with what stands for vs -/
def Callee (P : Program) (o : Oper) (e : Env) (f : FuncId) (vs : List V) : Prop := ∀ (w : World) (R : Nat → Prop) (ρ : Rho) (ac : Act), (∀ x ∈ o.op.operands, Rep w R ρ (e.rd x) (ac.eval x)) → ∃ xs : List Value, (execOp ac.eval o).run P w = (callFunc f xs.toArray).run P w ∧ Reps w R ρ vs xs

section
variable {P : Program} {cx : Cx} {h h' : Hp} {w w' : World} {R : Nat → Prop} {ρ : Rho} {c : Nat} {v : V} {x : Value} {e : Env} {T : Tab} {o : Oper} {f : FuncId} {vs : List V} {r r' : V}
variable {dst : Option Tmp} {ty : TypeId} {pos : String} {af : Array Edge} {gd : Option (Nat × Bool)}
theorem pure_ok [Inhabited TabT] (hcl : Callee P o e f vs) (hkl : V.klL 40 vs = true) (hf : Fn P f vs r) (ha : ∀ w R ρ x, Rep w R ρ r x → Rep w R ρ r' x) (h1 : Hp) : OpOk P cx o e h1 r' [] := by
  intro R ρ a w hs hr ht
  obtain ⟨xs, e1, h2⟩ := hcl w R ρ a hr
  rw [e1]
  refine (hf.run w R xs hs.rlt hs.glob (h2.klL hkl)).mono fun x w' ⟨hb, R', hR, hR', hrx⟩ => ?_
  obtain ⟨s1, s2⟩ := hs.grow hb.size (fun n hn => hb.block n hn) hb.os hb.tape hb.output hR hR'
  exact ⟨R', ρ, s1, ht, s2, ha _ _ _ _ (hrx.mono (fun _ h => h) (fun _ _ => rfl) (fun k o h => by cases h))⟩
theorem lend_ok [Inhabited TabT] {vs' : List V} {ks : List Nat} (hcl : Callee P o e f vs) (hl : LentL h vs ks vs') (hf : Fn P f vs' r) (ha : ∀ w R ρ x, Rep w R ρ r x → Rep w R ρ r' x) (hfl : V.flat 40 r' = true) (h1 : Hp) (hag : ∀ k ∈ ks, h1 k = h k) : OpOk P cx o e h1 r' [] := by
  intro R ρ a w hs hr ht
  obtain ⟨xs, e1, h2⟩ := hcl w R ρ a hr
  rw [e1]
  refine (hf.run w (RA h1 ρ R) xs (RA.lt hs) ⟨fun g cs hg => (hs.glob.1 g cs hg).toRA, fun g a hg => ⟨.inl (hs.glob.2 g a hg).1, (hs.glob.2 g a hg).2⟩⟩ (hl P h1 hag cx w R ρ xs hs h2)).mono fun x w' ⟨hb, R', hR, hR', hrx⟩ => ?_
  obtain ⟨s1, s2⟩ := hs.grow (R' := R) hb.size (fun n hn => hb.block n hn) hb.os hb.tape hb.output (fun _ h => h) (fun _ h => .inl h)
  exact ⟨R, ρ, s1, ht, s2, (ha _ _ _ _ hrx).flatV 40 hfl _ _ _⟩

theorem rdAllK_spec {h : Hp} {p : Prop} : ∀ (ks : List Nat), rdAllK h ks p → (∀ a ∈ ks, ∃ v, h a = some (.rd v)) ∧ p
  | [], hk => ⟨fun _ h => (by cases h), hk⟩
  | a :: r, hk => by
    unfold rdAllK at hk
    split at hk
    · rename_i v ha
      obtain ⟨h1, h2⟩ := rdAllK_spec r hk
      refine ⟨fun b hb => ?_, h2⟩
      rcases List.mem_cons.1 hb with rfl | hb
      · exact ⟨v, ha⟩
      · exact h1 b hb
    · exact hk.elim
theorem flatRK_spec {h : Hp} {ks : List Nat} {v : V} {p : Prop} (hk : flatRK h ks v p) : (V.flat 40 v = true ∨ ∀ a ∈ ks, ∃ v, h a = some (.rd v)) ∧ p := by
  unfold flatRK at hk
  split at hk
  · rename_i e; exact ⟨.inl e, hk⟩
  · obtain ⟨h1, h2⟩ := rdAllK_spec ks hk; exact ⟨.inr h1, h2⟩
theorem lendR_ok [Inhabited TabT] {vs' : List V} {ks : List Nat} (hcl : Callee P o e f vs) (hl : LentL h vs ks vs') (hf : Fn P f vs' r) (ha : ∀ w R ρ x, Rep w R ρ r x → Rep w R ρ r' x) (hrd : ∀ a ∈ ks, ∃ v, h a = some (.rd v)) (h1 : Hp) (hag : ∀ k ∈ ks, h1 k = h k) : OpOk P cx o e h1 r' [] := by
  intro R ρ a w hs hr ht
  obtain ⟨xs, e1, h2⟩ := hcl w R ρ a hr
  rw [e1]
  have hsub : ∀ j b, (if j ∈ ks then h1 j else none) = some b → h1 j = some b := fun j b hb => by
    split at hb
    · exact hb
    · cases hb
  have hno : ∀ j, ¬ Live (fun j => if j ∈ ks then h1 j else none) j := fun j hj => by
    obtain ⟨b, hb, hd⟩ := hj
    have hb : (if j ∈ ks then h1 j else none) = some b := hb
    split at hb
    · rename_i hm
      obtain ⟨v, hv⟩ := hrd j hm
      rw [hag j hm, hv] at hb
      cases hb
      exact hd (.inr ⟨_, rfl⟩)
    · cases hb
  have hs' : St P cx (fun j => if j ∈ ks then h1 j else none) w R ρ := ⟨hs.keeps, fun j o b hj hb => hs.brep j o b hj (hsub j b hb), fun j j' o o' n hne l l' => (hno j l).elim, fun j o n l hj hn => (hno j l).elim, hs.rlt, hs.rold, hs.glob⟩
  have q := hl P (fun j => if j ∈ ks then h1 j else none) (fun k hk => by simp only [hk, if_true]; exact hag k hk) cx w R ρ xs hs' h2
  have q' : Reps w R rho0 vs' xs := ⟨q.1, fun i v x hv hx => (q.2 i v x hv hx).mono (fun m hm => by
    rcases hm with hm | ⟨a, o, l, _⟩
    · exact hm
    · exact (hno a l).elim) (fun _ _ => rfl) (fun _ _ h => h)⟩
  refine (hf.run w R xs hs.rlt hs.glob q').mono fun x w' ⟨hb, R', hR, hR', hrx⟩ => ?_
  obtain ⟨s1, s2⟩ := hs.grow hb.size (fun n hn => hb.block n hn) hb.os hb.tape hb.output hR hR'
  exact ⟨R', ρ, s1, ht, s2, ha _ _ _ _ (hrx.mono (fun _ h => h) (fun _ _ => rfl) (fun k o h => by cases h))⟩

/-! ### lists that are given up -/
theorem live_rd {h : Hp} {a k : Nat} {v : V} (hl : Live (h.set a (some (.rd v))) k) : k ≠ a ∧ Live h k := by
  obtain ⟨b, hb, hd⟩ := hl
  by_cases e : k = a
  · subst e; rw [Hp.set_same] at hb; cases hb; exact absurd (.inr ⟨_, rfl⟩) hd
  · rw [Hp.set_other h _ e] at hb; exact ⟨e, b, hb, hd⟩
/-- the storage of block number k -/
def stored (ρ : Rho) (k n : Nat) : Prop := ∃ o, ρ k = some o ∧ o.own = some n
theorem St.giveUp [Inhabited TabT] {k : Nat} (hs : St P cx h w R ρ) (hl : Live h k) {v : V} (hv : ∀ o, ρ k = some o → BRep P w (fun n => R n ∨ stored ρ k n) ρ o (.rd v)) :
    St P cx (h.set k (some (.rd v))) w (fun n => R n ∨ stored ρ k n) ρ ∧ Ext w R ρ w (fun n => R n ∨ stored ρ k n) ρ := by
  have e1 : Ext w R ρ w (fun n => R n ∨ stored ρ k n) ρ := ⟨fun _ h => .inl h, fun _ _ => rfl, fun _ _ h => h⟩
  have hst : ∀ n, stored ρ k n → ¬ R n ∧ n < w.heap.size ∧ (cx.w0.heap.size ≤ n ∨ cx.M n) := fun n ⟨o, h1, h2⟩ => hs.mine k o n hl h1 h2
  refine ⟨⟨hs.keeps, fun j o b hj hb => ?_, fun j j' o o' n hne l l' => hs.apart j j' o o' n hne (live_rd l).2 (live_rd l').2, fun j o n l hj hn => ?_, fun n hn => ?_, fun n hn => ?_, hs.glob.ext e1⟩, e1⟩
  · by_cases hjk : j = k
    · subst hjk; rw [Hp.set_same] at hb; cases hb; exact hv o hj
    · rw [Hp.set_other h _ hjk] at hb; exact (hs.brep j o b hj hb).keep e1 fun _ _ _ => rfl
  · obtain ⟨hne, hlj⟩ := live_rd l
    obtain ⟨m1, m2, m3⟩ := hs.mine j o n hlj hj hn
    refine ⟨fun hr => ?_, m2, m3⟩
    rcases hr with hr | ⟨o', h1, h2⟩
    · exact m1 hr
    · exact hs.apart j k o o' n hne hlj hl hj h1 hn h2
  · rcases hn with hn | hn
    · exact hs.rlt n hn
    · exact (hst n hn).2.1
  · rcases hn with hn | hn
    · exact hs.rold n hn
    · exact .inr (hst n hn).2.2
theorem St.frzR [Inhabited TabT] {k : Nat} {el : TypeId} {xs : List (List V)} (hs : St P cx h w R ρ) (hk : h k = some (.rows el xs)) :
    St P cx (h.set k (some (.rd (.sl xs)))) w (fun n => R n ∨ stored ρ k n) ρ ∧ Ext w R ρ w (fun n => R n ∨ stored ρ k n) ρ ∧ ∀ x, Rep w R ρ (.own k) x → Rep w (fun n => R n ∨ stored ρ k n) rho0 (.sl xs) x := by
  have key : ∀ x, Rep w R ρ (.own k) x → Rep w (fun n => R n ∨ stored ρ k n) rho0 (.sl xs) x := fun x hx => own_lendR hs hk hx (fun _ h => .inl h) fun o m h1 h2 => .inr ⟨o, h1, h2⟩
  obtain ⟨s1, s2⟩ := hs.giveUp (v := .sl xs) ⟨_, hk, by simp⟩ fun o ho => by
    have hb := hs.brep k o _ ho hk
    cases o with
    | blk n => exact hb.elim
    | hdr y =>
      obtain ⟨E, fl, hw⟩ := hb
      exact key y (.own ho hw.owns.one)
  exact ⟨s1, s2, key⟩
def Frz [Inhabited TabT] (h : Hp) (vs : List V) (fs : List (Nat × Blk)) (vs' : List V) : Prop := ∀ (P : Program) (h1 : Hp), (∀ a ∈ keysOf fs, h1 a = h a) → ∀ (cx : Cx) (w : World) (R : Nat → Prop) (ρ : Rho) (xs : List Value), St P cx h1 w R ρ → Reps w R ρ vs xs →
  ∃ R', St P cx (h1.sets fs) w R' ρ ∧ Ext w R ρ w R' ρ ∧ Reps w R' rho0 vs' xs
theorem frzK_spec [Inhabited TabT] : ∀ (vs : List V) (h : Hp) (k : List V → List (Nat × Blk) → Prop), frzK h vs k → ∃ vs' fs, k vs' fs ∧ Frz h vs fs vs'
  | [], h, k, hk => ⟨[], [], hk, fun P h1 _ cx w R ρ xs hs hr => ⟨R, hs, Ext.refl _ _ _, ⟨hr.1, by simp⟩⟩⟩
  | v :: vs, h, k, hk => by
    have plain : klK v (frzK h vs fun vs fs => k (v :: vs) fs) → ∃ vs' fs, k vs' fs ∧ Frz h (v :: vs) fs vs' := fun hk => by
      obtain ⟨h0, hk⟩ := klK_spec hk
      obtain ⟨vs', fs, h1, h2⟩ := frzK_spec vs h _ hk
      refine ⟨_, _, h1, fun P h1 hag cx w R ρ xs hs hr => ?_⟩
      obtain ⟨x, rr, rfl, r1, r2⟩ := hr.uncons
      obtain ⟨R', q1, q2, q3⟩ := h2 P h1 hag cx w R ρ rr hs r2
      exact ⟨R', q1, q2, .cons ((r1.kl 40 h0).mono q2.r q2.heap (fun _ _ h => h)) q3⟩
    simp only [frzK] at hk
    split at hk
    · rename_i a
      split at hk
      · rename_i el xs0 ha
        obtain ⟨vs', fs, h1, h2⟩ := frzK_spec vs _ _ hk
        refine ⟨_, _, h1, fun P h1 hag cx w R ρ xs hs hr => ?_⟩
        obtain ⟨x, rr, rfl, r1, r2⟩ := hr.uncons
        obtain ⟨s1, s2, s3⟩ := hs.frzR ((hag a (by simp [keysOf])).trans ha)
        obtain ⟨R', q1, q2, q3⟩ := h2 P (h1.set a (some (.rd (.sl xs0)))) (fun b hb => by
          by_cases e : b = a
          · subst e; rw [Hp.set_same, Hp.set_same]
          · rw [Hp.set_other _ _ e, Hp.set_other _ _ e]; exact hag b (by simp [keysOf, hb])) cx w _ ρ rr s1 (r2.ext s2)
        exact ⟨R', q1, s2.trans q2, .cons ((s3 _ r1).mono q2.r q2.heap (fun _ _ h => h)) q3⟩
      · rename_i u ha
        obtain ⟨vs', fs, h1, h2⟩ := frzK_spec vs _ _ hk
        refine ⟨_, _, h1, fun P h1 hag cx w R ρ xs hs hr => ?_⟩
        obtain ⟨x, rr, rfl, r1, r2⟩ := hr.uncons
        have ha1 := (hag a (by simp [keysOf])).trans ha
        have hset : h1.set a (some (.rd u)) = h1 := by
          funext j
          by_cases e : j = a
          · subst e; rw [Hp.set_same, ha1]
          · rw [Hp.set_other _ _ e]
        obtain ⟨R', q1, q2, q3⟩ := h2 P h1 (fun b hb => hag b (by simp [keysOf, hb])) cx w R ρ rr hs r2
        refine ⟨R', by simp only [Hp.sets, hset]; exact q1, q2, .cons ?_ q3⟩
        cases r1 with
        | own hp =>
          have := hs.brep a _ _ hp ha1
          exact Rep.mono this q2.r q2.heap (fun _ _ h => h)
      · exact hk.elim
    · exact plain hk
theorem frz_ok [Inhabited TabT] {vs' : List V} {fs : List (Nat × Blk)} (hcl : Callee P o e f vs) (hl : Frz h vs fs vs') (hf : Fn P f vs' r) (ha : ∀ w R ρ x, Rep w R ρ r x → Rep w R ρ r' x) (h1 : Hp) (hag : ∀ k ∈ keysOf fs, h1 k = h k) : OpOk P cx o e h1 r' fs := by
  intro R ρ a w hs hr ht
  obtain ⟨xs, e1, h2⟩ := hcl w R ρ a hr
  rw [e1]
  obtain ⟨R1, q1, q2, q3⟩ := hl P h1 hag cx w R ρ xs hs h2
  refine (hf.run w R1 xs q1.rlt q1.glob q3).mono fun x w' ⟨hb, R', hR, hR', hrx⟩ => ?_
  obtain ⟨s1, s2⟩ := q1.grow hb.size (fun n hn => hb.block n hn) hb.os hb.tape hb.output hR hR'
  exact ⟨R', ρ, s1, fun k o hk => Hp.mono_sets fs h1 k (ht k o hk), q2.trans s2, ha _ _ _ _ (hrx.mono (fun _ h => h) (fun _ _ => rfl) (fun k o h => by cases h))⟩

/-! ### a call that writes -/
theorem freshN_len : ∀ (c i n : Nat), (freshN c i n).length = n
  | c, i, 0 => rfl
  | c, i, n + 1 => by simp [freshN, freshN_len c (i + 1) n]
theorem freshN_mem : ∀ (c n i k : Nat), k ∈ freshN c i n → ∃ j, i ≤ j ∧ k = 1000000 * (j + 1) + c
  | c, 0, i, k, h => by cases h
  | c, n + 1, i, k, h => by
    rcases List.mem_cons.1 h with rfl | h
    · exact ⟨i, Nat.le_refl _, rfl⟩
    · obtain ⟨j, h1, h2⟩ := freshN_mem c n (i + 1) k h; exact ⟨j, by omega, h2⟩
theorem freshN_nodup : ∀ (c n i : Nat), (freshN c i n).Nodup
  | c, 0, i => List.nodup_nil
  | c, n + 1, i => List.nodup_cons.2 ⟨fun h => by obtain ⟨j, h1, h2⟩ := freshN_mem c n (i + 1) _ h; omega, freshN_nodup c n (i + 1)⟩
theorem noneB_mem : ∀ {l : List Nat}, noneB h l → ∀ k ∈ l, h k = none
  | [], _, k, hk => by cases hk
  | j :: r, hh, k, hk => by
    rcases List.mem_cons.1 hk with rfl | hk
    · exact hh.1
    · exact noneB_mem hh.2 k hk
/-- where the caller finds the contract's blocks behind the call -/
noncomputable def Rho.back (ρ ρc : Rho) (σ : List Nat) : Rho := fun k => by
  classical
  exact if hk : ∃ i, σ[i]? = some k then (match ρc (Classical.choose hk) with | some o => some o | none => none) else ρ k
theorem back_in {ρ ρc : Rho} {σ : List Nat} (hd : σ.Nodup) {i k : Nat} (hi : σ[i]? = some k) : Rho.back ρ ρc σ k = ρc i := by
  have hk : ∃ i, σ[i]? = some k := ⟨i, hi⟩
  unfold Rho.back
  rw [dif_pos hk]
  have : Classical.choose hk = i := nodup_get hd (Classical.choose_spec hk) hi
  rw [this]
  cases ρc i <;> rfl
theorem back_out {ρ ρc : Rho} {σ : List Nat} {k : Nat} (hk : k ∉ σ) : Rho.back ρ ρc σ k = ρ k := by
  unfold Rho.back
  rw [dif_neg]
  rintro ⟨i, hi⟩
  exact hk (List.mem_of_getElem? hi)
theorem sets_in : ∀ (ws : List (Nat × Blk)) (h : Hp) (i k : Nat) (b : Blk), (keysOf ws).Nodup → ws[i]? = some (k, b) → h.sets ws k = some b
  | [], h, i, k, b, _, hi => by simp at hi
  | (j, b0) :: r, h, i, k, b, hd, hi => by
    obtain ⟨h1, h2⟩ := List.nodup_cons.1 hd
    cases i with
    | zero => simp at hi; obtain ⟨rfl, rfl⟩ := hi; rw [Hp.sets, Hp.sets_other _ _ _ h1, Hp.set_same]
    | succ i => exact sets_in r _ i k b h2 (by simpa using hi)
theorem keysOf_get : ∀ (ws : List (Nat × Blk)) (i : Nat), (keysOf ws)[i]? = (ws[i]?).map (·.1)
  | [], i => by simp [keysOf]
  | (j, b) :: r, 0 => rfl
  | (j, b) :: r, i + 1 => by simp [keysOf, keysOf_get r i]
theorem callM_ok [Inhabited TabT] {args : List V} {pre post : List Blk} {σ new : List Nat} {ws : List (Nat × Blk)} {r1 : V} (hcl : Callee P o e f vs) (hf : FnM P f args pre r post) (hargs : V.renL σ 60 args = vs) (hb : Has h σ σ pre) (hd : σ.Nodup) (hdn : new.Nodup)
    (hnew : ∀ k ∈ new, h k = none) (hws : keysOf ws = σ ++ new) (hlen : (σ ++ new).length = post.length) (hto : ∀ (i : Nat) (b : Blk), post[i]? = some b → ∃ j b', (σ ++ new)[i]? = some j ∧ ws[i]? = some (j, b') ∧ ToB P (σ ++ new) b b')
    (hr1 : To (σ ++ new) r r1) (ha : ∀ w R ρ x, Rep w R ρ r1 x → Rep w R ρ r' x) (h1 : Hp) (hag : ∀ k ∈ σ ++ new, h1 k = h k) : OpOk P cx o e h1 r' ws := by
  intro R ρ a w hs hr ht
  obtain ⟨xs, e1, h2⟩ := hcl w R ρ a hr
  rw [e1]
  have hb1 : Has h1 σ σ pre := ⟨hb.1, fun i k b hk hbk => by rw [hag k (List.mem_append_left _ (List.mem_of_getElem? hk))]; exact hb.2 i k b hk hbk⟩
  obtain ⟨hl, hg⟩ := hb1
  have hdis : ∀ k ∈ σ, k ∉ new := fun k hk hn => by
    obtain ⟨i, hi⟩ := List.getElem?_of_mem hk
    have hlt : i < pre.length := by rw [← hl]; exact (List.getElem?_eq_some_iff.1 hi).1
    have := hg i k pre[i] hi (by simp [hlt])
    have h0 := hnew k hn
    rw [hag k (by simp [hk]), h0] at this
    rcases this with this | ⟨_, this⟩
    · cases this
    · exact this rfl
  have hda : (σ ++ new).Nodup := List.nodup_append.2 ⟨hd, hdn, fun a ha b hb e => hdis a ha (e ▸ hb)⟩
  -- the callee's view
  let M : Nat → Prop := fun n => ∃ (i k : Nat) (o : RObj), σ[i]? = some k ∧ Live h1 k ∧ ρ k = some o ∧ o.own = some n
  let cc : Cx := ⟨w, R, M⟩
  obtain ⟨s0, t0⟩ := hs.via hd ⟨hl, hg⟩
  have s0' : St P cc (hpL pre) w R (ρ.via σ) := ⟨⟨rfl, rfl, rfl, Nat.le_refl _, fun _ _ _ => rfl⟩, s0.brep, s0.apart, fun i o n l hi hn => by
      obtain ⟨m1, m2, m3⟩ := s0.mine i o n l hi hn
      obtain ⟨k, hk, ho⟩ := Rho.via_some hi
      refine ⟨m1, m2, .inr ⟨i, k, o, hk, ?_, ho, hn⟩⟩
      obtain ⟨b, l1, l2⟩ := l
      rw [hpL_get] at l1
      rcases hg i k b hk l1 with l3 | ⟨l3, _⟩
      · exact ⟨_, l3, live_ren l2⟩
      · exact absurd (.inl l3) l2, s0.rlt, fun n hn => .inl hn, s0.glob⟩
  have hargs' : Reps w R (ρ.via σ) args xs := by rw [← hargs] at h2; exact h2.unren
  refine (hf.run cc w R (ρ.via σ) xs s0' t0 hargs').mono fun x w' ⟨R', ρc, s1, t1, x1, r1'⟩ => ?_
  -- back
  have hσ' : ∀ i k o, (σ ++ new)[i]? = some k → ρc i = some o → Rho.back ρ ρc (σ ++ new) k = some o := fun i k o hi ho => by rw [back_in hda hi]; exact ho
  have hMold : ∀ n, M n → ¬ R n ∧ n < w.heap.size ∧ (cx.w0.heap.size ≤ n ∨ cx.M n) := fun n ⟨i, k, o, q1, q2, q3, q4⟩ => hs.mine k o n q2 q3 q4
  have hz0 := hs.keeps.size
  have hzz : w.heap.size ≤ w'.heap.size := s1.keeps.size
  have hR' : ∀ n, R' n → R n ∨ w.heap.size ≤ n ∨ M n := fun n hn => s1.rold n hn
  have hblk : ∀ n, n < w.heap.size → ¬ M n → w'.heap[n]? = w.heap[n]? := fun n hn hm => s1.keeps.block n hn hm
  have ext : Ext w R ρ w' R' (Rho.back ρ ρc (σ ++ new)) := ⟨x1.r, x1.heap, fun k o hk => by
    by_cases hin : k ∈ σ ++ new
    · obtain ⟨i, hi⟩ := List.getElem?_of_mem hin
      rw [back_in hda hi]
      rcases List.mem_append.1 hin with hk1 | hk1
      · obtain ⟨i', hi'⟩ := List.getElem?_of_mem hk1
        have hi'' : (σ ++ new)[i']? = some k := by rw [List.getElem?_append_left (List.getElem?_eq_some_iff.1 hi').1]; exact hi'
        obtain rfl := nodup_get hda hi hi''
        exact x1.rho i o (by simp [Rho.via, hi', hk])
      · have := ht k o hk
        rw [hag k hin, hnew k hk1] at this
        exact absurd rfl this
    · rw [back_out hin]; exact hk⟩
  have hwsn : (keysOf ws).Nodup := by rw [hws]; exact hda
  -- a key of the call's: what it holds now
  have inn : ∀ (i k : Nat), (σ ++ new)[i]? = some k → ∃ b b', post[i]? = some b ∧ h1.sets ws k = some b' ∧ ToB P (σ ++ new) b b' := fun i k hi => by
    have hlt : i < post.length := by rw [← hlen]; exact (List.getElem?_eq_some_iff.1 hi).1
    obtain ⟨j, b', q1, q2, q3⟩ := hto i post[i] (by simp [hlt])
    rw [hi] at q1; cases q1
    exact ⟨_, b', by simp [hlt], sets_in ws h1 i k b' hwsn q2, q3⟩
  have out : ∀ k, k ∉ σ ++ new → h1.sets ws k = h1 k := fun k hk => Hp.sets_other ws h1 k (by rw [hws]; exact hk)
  have lin : ∀ (i k : Nat), (σ ++ new)[i]? = some k → Live (h1.sets ws) k → Live (hpL post) i := fun i k hi ⟨b2, l1, l2⟩ => by
    obtain ⟨b, b', q1, q2, q3⟩ := inn i k hi
    rw [q2] at l1; cases l1
    exact ⟨b, by rw [hpL_get]; exact q1, fun hh => l2 (q3.1.1 hh)⟩
  have lout : ∀ k, k ∉ σ ++ new → Live (h1.sets ws) k → Live h1 k := fun k hk ⟨b, l1, l2⟩ => ⟨b, by rw [← out k hk]; exact l1, l2⟩
  have notM : ∀ k oo n, k ∉ σ ++ new → Live h1 k → ρ k = some oo → oo.own = some n → ¬ M n := fun k oo n hk l ho hn ⟨i, k', o', q1, q2, q3, q4⟩ =>
    hs.apart k k' oo o' n (fun e => hk (by rw [e]; exact List.mem_append_left _ (List.mem_of_getElem? q1))) l q2 ho q3 hn q4
  refine ⟨R', Rho.back ρ ρc (σ ++ new), ⟨⟨s1.keeps.os.trans hs.keeps.os, s1.keeps.tape.trans hs.keeps.tape, s1.keeps.output.trans hs.keeps.output, Nat.le_trans hz0 hzz, fun k hk hm => ?_⟩, fun k oo b hk hbb => ?_, fun k k' oo oo' n hne l l' hk hk' hn hn' => ?_, fun k oo n l hk hn => ?_, s1.rlt, fun n hn => ?_, s1.glob⟩, fun k oo hk => ?_, ext, ha _ _ _ _ (hr1 ρc _ w' R' x hσ' r1')⟩
  · rw [hblk k (by omega) (fun hM => by rcases (hMold k hM).2.2 with q | q; omega; exact hm q)]
    exact hs.keeps.block k hk hm
  · by_cases hin : k ∈ σ ++ new
    · obtain ⟨i, hi⟩ := List.getElem?_of_mem hin
      obtain ⟨b0, b', q1, q2, q3⟩ := inn i k hi
      rw [q2] at hbb; cases hbb
      rw [back_in hda hi] at hk
      exact q3.2 ρc _ w' R' oo hσ' (s1.brep i oo b0 hk (by rw [hpL_get]; exact q1))
    · rw [back_out hin] at hk
      rw [out k hin] at hbb
      exact (hs.brep k oo b hk hbb).keep ext fun n hn hdd => hblk n (hs.mine k oo n ⟨b, hbb, hdd⟩ hk hn).2.1 (notM k oo n hin ⟨b, hbb, hdd⟩ hk hn)
  · by_cases hin : k ∈ σ ++ new <;> by_cases hin' : k' ∈ σ ++ new
    · obtain ⟨i, hi⟩ := List.getElem?_of_mem hin
      obtain ⟨i', hi'⟩ := List.getElem?_of_mem hin'
      rw [back_in hda hi] at hk
      rw [back_in hda hi'] at hk'
      exact s1.apart i i' oo oo' n (fun e => by subst e; rw [hi] at hi'; cases hi'; exact hne rfl) (lin i k hi l) (lin i' k' hi' l') hk hk' hn hn'
    · obtain ⟨i, hi⟩ := List.getElem?_of_mem hin
      rw [back_in hda hi] at hk
      rw [back_out hin'] at hk'
      have m2 := hs.mine k' oo' n (lout k' hin' l') hk' hn'
      rcases (s1.mine i oo n (lin i k hi l) hk hn).2.2 with q | q
      · have : w.heap.size ≤ n := q
        omega
      · exact notM k' oo' n hin' (lout k' hin' l') hk' hn' q
    · obtain ⟨i', hi'⟩ := List.getElem?_of_mem hin'
      rw [back_in hda hi'] at hk'
      rw [back_out hin] at hk
      have m2 := hs.mine k oo n (lout k hin l) hk hn
      rcases (s1.mine i' oo' n (lin i' k' hi' l') hk' hn').2.2 with q | q
      · have : w.heap.size ≤ n := q
        omega
      · exact notM k oo n hin (lout k hin l) hk hn q
    · rw [back_out hin] at hk
      rw [back_out hin'] at hk'
      exact hs.apart k k' oo oo' n hne (lout k hin l) (lout k' hin' l') hk hk' hn hn'
  · by_cases hin : k ∈ σ ++ new
    · obtain ⟨i, hi⟩ := List.getElem?_of_mem hin
      rw [back_in hda hi] at hk
      obtain ⟨m1, m2, m3⟩ := s1.mine i oo n (lin i k hi l) hk hn
      refine ⟨m1, m2, ?_⟩
      rcases m3 with q | q
      · have : w.heap.size ≤ n := q
        exact .inl (by omega)
      · exact (hMold n q).2.2
    · rw [back_out hin] at hk
      obtain ⟨m1, m2, m3⟩ := hs.mine k oo n (lout k hin l) hk hn
      refine ⟨fun hr' => ?_, by omega, m3⟩
      rcases hR' n hr' with q | q | q
      · exact m1 q
      · omega
      · exact notM k oo n hin (lout k hin l) hk hn q
  · rcases hR' n hn with q | q | q
    · exact hs.rold n q
    · exact .inr (.inl (by omega))
    · exact .inr (hMold n q).2.2
  · by_cases hin : k ∈ σ ++ new
    · obtain ⟨i, hi⟩ := List.getElem?_of_mem hin
      obtain ⟨b0, b', q1, q2, q3⟩ := inn i k hi
      rw [q2]; simp
    · rw [back_out hin] at hk
      rw [out k hin]; exact ht k oo hk
/-- ALL TOGETHER -/
theorem callK_ok [Inhabited TabT] {C : Cons} (hC : ConsOk P C) (hcl : Callee P o e f vs) {K : FK} (hk : callK C h c f vs K) : ∃ v rs ws, K v rs ws ∧ ∀ h1 : Hp, (∀ k ∈ rs, h1 k = h k) → OpOk P cx o e h1 v ws := by
  have hM : callM C h c f vs K → ∃ v rs ws, K v rs ws ∧ ∀ h1 : Hp, (∀ k ∈ rs, h1 k = h k) → OpOk P cx o e h1 v ws := fun hk => by
    obtain ⟨σ, args, pre, r, post, h1, h2⟩ := hk
    obtain ⟨us, h2, _, hus⟩ := renLK_spec σ 60 args _ h2
    obtain ⟨he, h2'⟩ := eqsK_spec h2
    subst he
    obtain ⟨h3, h4, h5, h6⟩ := hasBk_spec h2'
    rw [appN_eq] at h6
    obtain ⟨ws, h6, w1, w2, w3⟩ := renBsK_spec (P := P) h6
    obtain ⟨r1, h6, hto, _⟩ := renK_spec _ _ _ _ h6
    obtain ⟨r2, h6, ha⟩ := altK_spec h6
    exact ⟨_, _, _, h6, fun h1' hag => callM_ok hcl (hC.m _ _ _ _ _ h1) hus.symm h3 (distinct_spec h4) (freshN_nodup _ _ _) (noneB_mem h5) w1 w2 w3 hto ha h1' hag⟩
  unfold callK at hk
  split at hk
  · rename_i hkl
    rcases hk with ⟨r, h1, h2⟩ | hk
    · obtain ⟨u, h3, h4⟩ := altK_spec h2
      exact ⟨_, _, _, h3, fun h1' _ => pure_ok hcl hkl (hC.p _ _ _ h1) h4 h1'⟩
    · exact hM hk
  · rcases hk with hk | hk | hk
    · obtain ⟨vs', ks, ⟨r, h1, h2⟩, hl⟩ := lendLK_spec h 40 vs _ hk
      obtain ⟨u, h3, h4⟩ := altK_spec h2
      obtain ⟨h5 | h5, h6⟩ := flatRK_spec h3
      · exact ⟨_, _, _, h6, fun h1' hag => lend_ok hcl hl (hC.p _ _ _ h1) h4 h5 h1' hag⟩
      · exact ⟨_, _, _, h6, fun h1' hag => lendR_ok hcl hl (hC.p _ _ _ h1) h4 h5 h1' hag⟩
    · obtain ⟨vs', fs, ⟨r, h1, h2⟩, hl⟩ := frzK_spec vs h _ hk
      obtain ⟨u, h3, h4⟩ := altK_spec h2
      exact ⟨_, _, _, h3, fun h1' hag => frz_ok hcl hl (hC.p _ _ _ h1) h4 h1' hag⟩
    · exact hM hk
/-! ### which function is called -/
theorem reps_map {R : Nat → Prop} {l : List Operand} {ac : Act} (hr : ∀ x ∈ l, Rep w R ρ (e.rd x) (ac.eval x)) : Reps w R ρ (l.map e.rd) (l.map ac.eval) := by
  refine ⟨by simp, fun i v y hv hy => ?_⟩
  rw [List.getElem?_map] at hv hy
  cases hcc : l[i]? with
  | none => simp [hcc] at hv
  | some z =>
    simp [hcc] at hv hy
    subst hv; subst hy
    exact hr z (List.mem_of_getElem? hcc)
theorem callee_value {q : Call} {fo : Operand} {caps : List V} (hq : q.callee = .value fo) (hf : e.rd fo = .fn f caps) : Callee P ⟨dst, .call q, ty, pos, af, gd⟩ e f (q.args.toList.map e.rd ++ caps) := fun w R ρ ac hr => by
  have h1 := hr fo (by simp [Op.operands, Call.operands, hq])
  rw [hf] at h1
  generalize he : ac.eval fo = u at h1
  cases h1 with
  | fn hl hrep =>
    rename_i xs
    refine ⟨q.args.toList.map ac.eval ++ xs, ?_, (reps_map fun x hx => hr x (by simp only [Op.operands, Call.operands, hq, Array.mem_append]; right; simpa using hx)).append ⟨hl, hrep⟩⟩
    have e1 : q.args.map ac.eval ++ xs.toArray = (q.args.toList.map ac.eval ++ xs).toArray := by apply Array.ext'; simp
    simp only [execOp, resolve, hq, he, Deferred.ofValue, Sem.run_bind, Sem.run_pure, Result.andThen_ok, invoke]
    simp
    rw [e1]
theorem callee_invoke (hT : TabOk P T) {q : Call} {x : Operand} {m : String} {t : TypeId} {v : V} (hq : q.callee = .invoke x m) (hx : e.rd x = .ifc t v) (hm : T.meth t m = some (f, false)) : Callee P ⟨dst, .call q, ty, pos, af, gd⟩ e f (v :: q.args.toList.map e.rd) := fun w R ρ ac hr => by
  have h1 := hr x (by simp [Op.operands, Call.operands, hq])
  rw [hx] at h1
  obtain ⟨y, hy, h2⟩ := h1.of_ifc
  refine ⟨y :: q.args.toList.map ac.eval, ?_, .cons h2 (reps_map fun x hx => hr x (by simp only [Op.operands, Call.operands, hq, Array.mem_append]; right; simpa using hx))⟩
  have e1 : (#[y] ++ (#[Value.iface t y] ++ q.args.map ac.eval).extract 1 (#[Value.iface t y] ++ q.args.map ac.eval).size) = (y :: q.args.toList.map ac.eval).toArray := by
    apply Array.ext'; simp; exact List.take_of_length_le (by simp)
  have e2 : (#[Value.iface t y] ++ q.args.map ac.eval)[0]? = some (.iface t y) := by simp [Array.getElem?_append]
  have e3 : ∀ w, (method (P.types.size + Made.depth) t y m).run P w = .ok (f, y) w := hT.meth t m f hm y
  simp only [execOp, resolve, hq, hy, Sem.run_bind, Sem.run_pure, Result.andThen_ok, invoke, e2, callMethod, run_program, e3, e1]
theorem callee_invoke1 (hT : TabOk P T) {q : Call} {x : Operand} {m : String} {t : TypeId} {v : V} (hq : q.callee = .invoke x m) (hx : e.rd x = .ifc t (.agg [v])) (hm : T.meth t m = some (f, true)) : Callee P ⟨dst, .call q, ty, pos, af, gd⟩ e f (v :: q.args.toList.map e.rd) := fun w R ρ ac hr => by
  have h1 := hr x (by simp [Op.operands, Call.operands, hq])
  rw [hx] at h1
  obtain ⟨y, hy, h2⟩ := h1.of_ifc
  cases h2 with
  | agg hl h1' hh =>
    rename_i xs
    obtain ⟨u, rfl⟩ := List.length_eq_one_iff.1 (by simpa using hl.symm)
    refine ⟨u :: q.args.toList.map ac.eval, ?_, .cons (hh 0 _ _ rfl rfl) (reps_map fun x hx => hr x (by simp only [Op.operands, Call.operands, hq, Array.mem_append]; right; simpa using hx))⟩
    have e1 : (#[u] ++ (#[Value.iface t (.agg #[u])] ++ q.args.map ac.eval).extract 1 (#[Value.iface t (.agg #[u])] ++ q.args.map ac.eval).size) = (u :: q.args.toList.map ac.eval).toArray := by
      apply Array.ext'; simp; exact List.take_of_length_le (by simp)
    have e2 : (#[Value.iface t (.agg #[u])] ++ q.args.map ac.eval)[0]? = some (.iface t (.agg #[u])) := by simp [Array.getElem?_append]
    have e3 : ∀ w, (method (P.types.size + Made.depth) t (.agg #[u]) m).run P w = .ok (f, u) w := hT.meth1 t m f hm u
    simp only [execOp, resolve, hq, hy, Sem.run_bind, Sem.run_pure, Result.andThen_ok, invoke, e2, callMethod, run_program, e3, e1]
end
end Go.Proofs.YthchmjdgepbjpaaDoor

-- tabvar