/-
  Plans: whatever is split, joined, moved, each key has just one place: plain laws, no program in sight. No conditions.
-/
import Derived.Test.YtmlfknmpapbpgaaPl2
namespace Go.Proofs.Ytmlfknmpapbpgaa
open Go.RowKit
set_option linter.unusedSimpArgs false
set_option linter.unusedVariables false

theorem blt_irreflP (a : Bs) : blt a a = false := by
  unfold blt
  induction a with
  | nil => rfl
  | cons x a ih => simp [Op.bytesLess, ih]
theorem blt_transP {a b c : Bs} (h : blt a b = true) (k : blt b c = true) : blt a c = true := by
  unfold blt at *
  induction a generalizing b c with
  | nil => cases b <;> cases c <;> simp_all [Op.bytesLess]
  | cons x a ih =>
    cases b with
    | nil => simp [Op.bytesLess] at h
    | cons y b =>
      cases c with
      | nil => simp [Op.bytesLess] at k
      | cons z c =>
        simp only [Op.bytesLess, Bool.or_eq_true, decide_eq_true_eq, Bool.and_eq_true, beq_iff_eq] at *
        simp only [UInt8.lt_iff_toNat_lt, ← UInt8.toNat_inj] at *
        rcases h with h | ⟨h, h'⟩ <;> rcases k with k | ⟨k, k'⟩
        · exact .inl (by omega)
        · exact .inl (by omega)
        · exact .inl (by omega)
        · exact .inr ⟨by omega, ih h' k'⟩
theorem blt_nilP (a : Bs) : blt a [] = false := by cases a <;> rfl
/-- spans one behind the other, from f to the end of all keys -/
def chainS : Bs → List (Bs × Bs) → Bool
  | _, [] => false
  | f, [s] => decide (s.1 = f) && decide (s.2 = []) && decide (f.length ≤ 8)
  | f, s :: u :: r => decide (s.1 = f) && !decide (s.2 = []) && isB ⟨f, s.2⟩ && chainS s.2 (u :: r)
abbrev spansP (l : List Plc) : List (Bs × Bs) := l.map fun p => (p.f, p.t)
theorem chainS_cons {f : Bs} {s : Bs × Bs} {r : List (Bs × Bs)} (h : r ≠ []) : chainS f (s :: r) = (decide (s.1 = f) && !decide (s.2 = []) && isB ⟨f, s.2⟩ && chainS s.2 r) := by
  cases r with
  | nil => exact absurd rfl h
  | cons u r => rfl
theorem chainS_len {f : Bs} : ∀ {l : List (Bs × Bs)}, chainS f l = true → l ≠ [] ∧ f.length ≤ 8
  | [], h => by simp [chainS] at h
  | [s], h => by simp [chainS] at h; exact ⟨by simp, h.2⟩
  | s :: u :: r, h => by simp [chainS, isB] at h; exact ⟨by simp, h.1.2.1.1⟩
theorem chainS_at : ∀ {l : List (Bs × Bs)} {f : Bs} {i : Nat} {s : Bs × Bs}, chainS f l = true → l[i]? = some s → isB ⟨s.1, s.2⟩ = true
  | [], f, i, s, h, hs => by simp [chainS] at h
  | [u], f, i, s, h, hs => by
    simp [chainS] at h
    cases i with
    | zero => simp at hs; subst hs; simp [isB, h.1.1, h.1.2, h.2]
    | succ i => simp at hs
  | u :: v :: r, f, i, s, h, hs => by
    rw [chainS_cons (by simp)] at h
    simp only [Bool.and_eq_true, decide_eq_true_eq, Bool.not_eq_true', decide_eq_false_iff_not] at h
    cases i with
    | zero => simp at hs; subst hs; rw [h.1.1.1]; exact h.1.2
    | succ i => exact chainS_at h.2 (by simpa using hs)
theorem chainS_first {l : List (Bs × Bs)} {f : Bs} {s : Bs × Bs} (h : chainS f l = true) (hs : l[0]? = some s) : s.1 = f := by
  match l with
  | [] => simp at hs
  | [u] => simp at hs; subst hs; simp [chainS] at h; exact h.1.1
  | u :: v :: r => simp at hs; subst hs; simp [chainS] at h; exact h.1.1.1
theorem chainS_last : ∀ {l : List (Bs × Bs)} {f : Bs} {s : Bs × Bs}, chainS f l = true → l[l.length - 1]? = some s → s.2 = []
  | [], f, s, h, hs => by simp [chainS] at h
  | [u], f, s, h, hs => by simp at hs; subst hs; simp [chainS] at h; exact h.1.2
  | u :: v :: r, f, s, h, hs => by
    rw [chainS_cons (by simp)] at h
    simp only [Bool.and_eq_true] at h
    exact chainS_last h.2 (by simpa using hs)
theorem chainS_touch : ∀ {l : List (Bs × Bs)} {f : Bs} {i : Nat} {s u : Bs × Bs}, chainS f l = true → l[i]? = some s → l[i + 1]? = some u → ¬ s.2 = [] ∧ s.2 = u.1
  | [], f, i, s, u, h, hs, hu => by simp [chainS] at h
  | [x], f, i, s, u, h, hs, hu => by simp at hu
  | x :: y :: r, f, i, s, u, h, hs, hu => by
    rw [chainS_cons (by simp)] at h
    simp only [Bool.and_eq_true, decide_eq_true_eq, Bool.not_eq_true', decide_eq_false_iff_not] at h
    cases i with
    | zero =>
      simp at hs hu; subst hs; subst hu
      exact ⟨h.1.1.2, (chainS_first h.2 rfl).symm⟩
    | succ i => exact chainS_touch h.2 (by simpa using hs) (by simpa using hu)
/-- is a key in a span? -/
def inS (key : Bs) (s : Bs × Bs) : Bool := !blt key s.1 && (decide (s.2 = []) || blt key s.2)
theorem chainS_none {key : Bs} : ∀ {l : List (Bs × Bs)} {f : Bs}, chainS f l = true → blt key f = true → l.countP (inS key) = 0
  | [], f, h, hk => by simp [chainS] at h
  | [s], f, h, hk => by simp [chainS] at h; simp [inS, h.1.1, hk]
  | s :: u :: r, f, h, hk => by
    rw [chainS_cons (by simp)] at h
    simp only [Bool.and_eq_true, decide_eq_true_eq, Bool.not_eq_true', decide_eq_false_iff_not] at h
    have hlt : blt f s.2 = true := by
      have := h.1.2; simp [isB, h.1.1.2] at this; exact this.2
    rw [List.countP_cons, chainS_none h.2 (blt_transP hk hlt), inS, h.1.1.1, hk]
    simp
theorem chainS_count {key : Bs} : ∀ {l : List (Bs × Bs)} {f : Bs}, chainS f l = true → blt key f = false → l.countP (inS key) = 1
  | [], f, h, hk => by simp [chainS] at h
  | [s], f, h, hk => by simp [chainS] at h; simp [inS, h.1.1, h.1.2, hk]
  | s :: u :: r, f, h, hk => by
    rw [chainS_cons (by simp)] at h
    simp only [Bool.and_eq_true, decide_eq_true_eq, Bool.not_eq_true', decide_eq_false_iff_not] at h
    rw [List.countP_cons]
    cases hb : blt key s.2 with
    | true => rw [chainS_none h.2 hb, inS, h.1.1.1, hk, hb]; simp
    | false => rw [chainS_count h.2 hb, inS, h.1.1.1, hk, hb]; simp [h.1.1.2]
theorem chainS_split {c : Bs} : ∀ {l : List (Bs × Bs)} {f : Bs} {k : Nat} {s : Bs × Bs}, chainS f l = true → l[k]? = some s → cutB ⟨s.1, s.2⟩ c = true → chainS f (l.take k ++ [(s.1, c), (c, s.2)] ++ l.drop (k + 1)) = true
  | [], f, k, s, h, hs, hc => by simp [chainS] at h
  | x :: r, f, 0, s, h, hs, hc => by
    simp at hs; subst hs
    have hc2 := hc
    simp only [cutB, hasB, isB, isKeyB, Bool.and_eq_true, decide_eq_true_eq, Bool.not_eq_true', decide_eq_false_iff_not, Bool.or_eq_true] at hc
    obtain ⟨⟨⟨⟨⟨⟨h1, h2⟩, h3⟩, ⟨h4, h5⟩⟩, h6⟩, h7⟩, h8⟩ := hc
    have hf := chainS_first h rfl
    simp only [List.take_zero, List.nil_append, List.cons_append, List.drop_succ_cons, List.drop_zero]
    rw [chainS_cons (by simp)]
    simp only [Bool.and_eq_true, decide_eq_true_eq, Bool.not_eq_true', decide_eq_false_iff_not]
    refine ⟨⟨⟨hf, h4⟩, ?_⟩, ?_⟩
    · rw [← hf]; simp [isB, h1, h5, h8]
    · cases r with
      | nil => simp [chainS] at h; simp [chainS, h.1.2, h5]
      | cons y r =>
        rw [chainS_cons (by simp)] at h
        simp only [Bool.and_eq_true, decide_eq_true_eq, Bool.not_eq_true', decide_eq_false_iff_not] at h
        rw [chainS_cons (by simp)]
        simp only [Bool.and_eq_true, decide_eq_true_eq, Bool.not_eq_true', decide_eq_false_iff_not]
        refine ⟨⟨⟨by simp, h.1.1.2⟩, ?_⟩, h.2⟩
        rcases h7 with h7 | h7
        · exact absurd h7 h.1.1.2
        · simp [isB, h5, h2, h7]
  | x :: r, f, k + 1, s, h, hs, hc => by
    have hr : r ≠ [] := by rintro rfl; simp at hs
    rw [chainS_cons hr] at h
    simp only [Bool.and_eq_true] at h
    have ih := chainS_split (k := k) h.2 (by simpa using hs) hc
    rw [List.take_succ_cons, List.drop_succ_cons, List.cons_append, List.cons_append, chainS_cons (by simp)]
    simp only [Bool.and_eq_true]
    exact ⟨h.1, ih⟩
theorem chainS_join : ∀ {l : List (Bs × Bs)} {f : Bs} {k : Nat} {s u : Bs × Bs}, chainS f l = true → l[k]? = some s → l[k + 1]? = some u → chainS f (l.take k ++ [(s.1, u.2)] ++ l.drop (k + 2)) = true
  | [], f, k, s, u, h, hs, hu => by simp [chainS] at h
  | [x], f, k, s, u, h, hs, hu => by simp at hu
  | x :: y :: r, f, 0, s, u, h, hs, hu => by
    simp at hs hu; subst hs; subst hu
    rw [chainS_cons (by simp)] at h
    simp only [Bool.and_eq_true, decide_eq_true_eq, Bool.not_eq_true', decide_eq_false_iff_not] at h
    have hlt : blt f x.2 = true := by have := h.1.2; simp [isB, h.1.1.2] at this; exact this.2
    have hfl : f.length ≤ 8 := by have := h.1.2; simp [isB] at this; exact this.1.1
    simp only [List.take_zero, List.nil_append, List.cons_append, List.drop_succ_cons, List.drop_zero]
    cases r with
    | nil =>
      have h2 := h.2; simp [chainS] at h2
      simp [chainS, h.1.1.1, h2.1.2, hfl]
    | cons z r =>
      have h2 := h.2
      rw [chainS_cons (by simp)] at h2
      simp only [Bool.and_eq_true, decide_eq_true_eq, Bool.not_eq_true', decide_eq_false_iff_not] at h2
      rw [chainS_cons (by simp)]
      simp only [Bool.and_eq_true, decide_eq_true_eq, Bool.not_eq_true', decide_eq_false_iff_not]
      have h3 := h2.1.2; simp [isB, h2.1.1.2] at h3
      exact ⟨⟨⟨h.1.1.1, h2.1.1.2⟩, by simp [isB, hfl, h3.1.2, blt_transP hlt h3.2]⟩, h2.2⟩
  | x :: y :: r, f, k + 1, s, u, h, hs, hu => by
    rw [chainS_cons (by simp)] at h
    simp only [Bool.and_eq_true] at h
    have ih := chainS_join (k := k) h.2 (by simpa using hs) (by simpa using hu)
    rw [List.take_succ_cons, List.cons_append, List.cons_append, show (x :: y :: r).drop (k + 1 + 2) = (y :: r).drop (k + 2) from by rw [show k + 1 + 2 = (k + 2) + 1 by omega, List.drop_succ_cons], chainS_cons (by simp)]
    simp only [Bool.and_eq_true]
    exact ⟨h.1, ih⟩

/-- a plan all the way: n: the next number; e: no epoch is greater -/
structure Good (l : List Plc) (n e : Int) : Prop where
  len : l.length ≤ 8
  chain : chainS [] (spansP l) = true
  ok : ∀ p ∈ l, 1 ≤ p.id ∧ p.id < n ∧ 1 ≤ p.ep ∧ p.ep ≤ e ∧ 0 ≤ p.nd ∧ p.nd < 3
  ids : (l.map (·.id)).Nodup
theorem spans_get {l : List Plc} {i : Nat} {p : Plc} (h : l[i]? = some p) : (spansP l)[i]? = some (p.f, p.t) := by simp [spansP, h]
theorem Good.pos {l : List Plc} {n e : Int} (h : Good l n e) : 1 ≤ l.length := by
  have := (chainS_len h.chain).1
  cases l with
  | nil => simp [spansP] at this
  | cons => simp
theorem Good.ids_ne {l : List Plc} {n e : Int} (h : Good l n e) {i j : Nat} {p q : Plc} (hij : i < j) (hp : l[i]? = some p) (hq : l[j]? = some q) : ¬ p.id = q.id := by
  have h1 := h.ids
  obtain ⟨hi, rfl⟩ := List.getElem?_eq_some_iff.1 hp
  obtain ⟨hj, rfl⟩ := List.getElem?_eq_some_iff.1 hq
  have := List.pairwise_iff_getElem.1 h1 i j (by simpa using hi) (by simpa using hj) hij
  simpa using this
theorem Good.isPlan {l : List Plc} {n e : Int} (h : Good l n e) (hn : n ≤ 1000000000000) (he : e ≤ 1000000) : IsPlan l where
  len := ⟨h.pos, h.len⟩
  first p hp := chainS_first h.chain (spans_get hp)
  last p hp := by
    have := chainS_last (s := (p.f, p.t)) h.chain (by rw [List.length_map]; exact spans_get hp)
    exact this
  each i p hp := by
    have h1 := chainS_at h.chain (spans_get hp)
    have h2 := h.ok p (List.mem_of_getElem? hp)
    simp only [plcB, Bool.and_eq_true, decide_eq_true_eq]
    exact ⟨⟨⟨⟨⟨⟨by omega, by omega⟩, by omega⟩, by omega⟩, by omega⟩, by omega⟩, h1⟩
  touch i p q hp hq := by
    have h1 := chainS_at h.chain (spans_get hp)
    have h2 := chainS_at h.chain (spans_get hq)
    have h3 := chainS_touch h.chain (spans_get hp) (spans_get hq)
    simp only at h1 h2 h3
    show (isB _ && isB _ && !decide (p.t = []) && decide (p.t = q.f)) = true
    rw [h1, h2, decide_eq_false h3.1, decide_eq_true h3.2]; rfl
  ids i j p q hij hp hq := h.ids_ne hij hp hq
theorem idxG_is {l : List Plc} : ∀ {i k : Nat} {p : Plc}, (∀ j q, j < k → l[j]? = some q → ¬ q.id = p.id) → l[k]? = some p → idxG (idP p.id) l i = ((i + k : Nat) : Int) := by
  induction l with
  | nil => intro i k p _ hp; simp at hp
  | cons x r ih =>
    intro i k p h hp
    cases k with
    | zero => simp at hp; subst hp; rw [idxG]; simp [idP]
    | succ k =>
      have hx := h 0 x (by omega) rfl
      rw [idxG, if_neg (by simp [idP, hx]), ih (k := k) (fun j q hj hq => h (j + 1) q (by omega) (by simpa using hq)) (by simpa using hp)]
      congr 1; omega
theorem Good.idx {l : List Plc} {n e : Int} (h : Good l n e) {k : Nat} {p : Plc} (hp : l[k]? = some p) : idxG (idP p.id) l 0 = (k : Int) := by
  rw [idxG_is (i := 0) (k := k) (fun j q hj hq => h.ids_ne hj hq hp) hp]; simp
theorem Good.more {l : List Plc} {n e n' e' : Int} (h : Good l n e) (hn : n ≤ n') (he : e ≤ e') : Good l n' e' := ⟨h.len, h.chain, fun p hp => by have := h.ok p hp; omega, h.ids⟩
theorem Good.split {l : List Plc} {n e : Int} (h : Good l n e) (hn : 1 ≤ n) (he : 1 ≤ e) {k : Nat} {p : Plc} (hp : l[k]? = some p) (h8 : l.length < 8) (c : Bs) : Good (splitP l p.id c n (n + 1)) (n + 2) e := by
  rw [splitP_at (h.idx hp) hp]
  split
  · rename_i hc
    have hk := (List.getElem?_eq_some_iff.1 hp).1
    have hpo := h.ok p (List.mem_of_getElem? hp)
    refine ⟨by simp; omega, ?_, fun q hq => ?_, ?_⟩
    · have := chainS_split h.chain (spans_get hp) hc
      simpa [spansP, List.map_take, List.map_drop] using this
    · simp only [List.mem_append, List.mem_cons, List.not_mem_nil, or_false] at hq
      rcases hq with (hq | rfl | rfl) | hq
      · have := h.ok q (List.mem_of_mem_take hq); omega
      · simp; omega
      · simp; omega
      · have := h.ok q (List.mem_of_mem_drop hq); omega
    · have hsub : (l.take k ++ l.drop (k + 1)).Sublist l := by
        conv => rhs; rw [← List.take_append_drop k l]
        exact List.Sublist.append (List.Sublist.refl _) (List.drop_sublist_drop_left l (by omega))
      have hnd : ((l.take k ++ l.drop (k + 1)).map (·.id)).Nodup := h.ids.sublist (hsub.map _)
      have hlt : ∀ q ∈ l.take k ++ l.drop (k + 1), q.id < n := fun q hq => (h.ok q (hsub.subset hq)).2.1
      have hperm : ((l.take k ++ [(⟨n, 1, p.nd, p.f, c⟩ : Plc), ⟨n + 1, 1, p.nd, c, p.t⟩] ++ l.drop (k + 1)).map (·.id)).Perm (n :: (n + 1) :: (l.take k ++ l.drop (k + 1)).map (·.id)) := by
        simp only [List.map_append, List.map_cons, List.map_nil, List.append_assoc, List.cons_append, List.nil_append]
        exact (List.perm_middle.trans ((List.perm_middle).cons _))
      rw [hperm.nodup_iff]
      simp only [List.nodup_cons, List.mem_cons, List.mem_map]
      refine ⟨?_, ?_, hnd⟩
      · rintro (h1 | ⟨q, hq, h1⟩)
        · omega
        · have := hlt q hq; omega
      · rintro ⟨q, hq, h1⟩
        have := hlt q hq; omega
  · exact h.more (by omega) (by omega)
theorem Good.join {l : List Plc} {n e : Int} (h : Good l n e) (hn : 1 ≤ n) (he : 1 ≤ e) {k : Nat} {p q : Plc} (hp : l[k]? = some p) (hq : l[k + 1]? = some q) : Good (joinP l p.id q.id n) (n + 1) e := by
  rw [joinP_at (h.idx hp) hp hq, if_pos (h.idx hq)]
  have hk := (List.getElem?_eq_some_iff.1 hq).1
  have hpo := h.ok p (List.mem_of_getElem? hp)
  have h8 := h.len
  refine ⟨by simp; omega, ?_, fun x hx => ?_, ?_⟩
  · have := chainS_join h.chain (spans_get hp) (spans_get hq)
    simpa [spansP, List.map_take, List.map_drop] using this
  · simp only [List.mem_append, List.mem_cons, List.not_mem_nil, or_false] at hx
    rcases hx with (hx | rfl) | hx
    · have := h.ok x (List.mem_of_mem_take hx); omega
    · simp; omega
    · have := h.ok x (List.mem_of_mem_drop hx); omega
  · have hsub : (l.take k ++ l.drop (k + 2)).Sublist l := by
      conv => rhs; rw [← List.take_append_drop k l]
      exact List.Sublist.append (List.Sublist.refl _) (List.drop_sublist_drop_left l (by omega))
    have hnd : ((l.take k ++ l.drop (k + 2)).map (·.id)).Nodup := h.ids.sublist (hsub.map _)
    have hlt : ∀ x ∈ l.take k ++ l.drop (k + 2), x.id < n := fun x hx => (h.ok x (hsub.subset hx)).2.1
    have hperm : ((l.take k ++ [(⟨n, 1, p.nd, p.f, q.t⟩ : Plc)] ++ l.drop (k + 2)).map (·.id)).Perm (n :: (l.take k ++ l.drop (k + 2)).map (·.id)) := by
      simp only [List.map_append, List.map_cons, List.map_nil, List.append_assoc, List.cons_append, List.nil_append]
      exact List.perm_middle
    rw [hperm.nodup_iff]
    simp only [List.nodup_cons, List.mem_map]
    refine ⟨?_, hnd⟩
    rintro ⟨x, hx, h1⟩
    have := hlt x hx; omega
theorem set_map {α β : Type} (f : α → β) : ∀ (l : List α) (k : Nat) (p x : α), l[k]? = some p → f x = f p → (l.set k x).map f = l.map f
  | [], k, p, x, h, _ => by simp at h
  | y :: r, 0, p, x, h, e => by simp at h; subst h; simp [e]
  | y :: r, k + 1, p, x, h, e => by simp only [List.set_cons_succ, List.map_cons]; rw [set_map f r k p x (by simpa using h) e]
theorem Good.move {l : List Plc} {n e : Int} (h : Good l n e) {k : Nat} {p : Plc} (hp : l[k]? = some p) (nd : Int) (hnd : 0 ≤ nd ∧ nd < 3) : Good (moveP l p.id (p.ep + 1) nd) n (e + 1) := by
  rw [moveP_at (h.idx hp) hp]
  have hpo := h.ok p (List.mem_of_getElem? hp)
  refine ⟨by simpa using h.len, ?_, fun q hq => ?_, ?_⟩
  · rw [spansP, set_map (fun p : Plc => (p.f, p.t)) l k p ⟨p.id, p.ep + 1, nd, p.f, p.t⟩ hp rfl]; exact h.chain
  · rcases List.mem_or_eq_of_mem_set hq with hq | rfl
    · have := h.ok q hq; omega
    · simp; omega
  · rw [set_map (fun p : Plc => p.id) l k p ⟨p.id, p.ep + 1, nd, p.f, p.t⟩ hp rfl]; exact h.ids
/-- each key has just one place -/
theorem Good.one {l : List Plc} {n e : Int} (h : Good l n e) (key : Bs) : (spansP l).countP (inS key) = 1 := chainS_count h.chain (blt_nilP key)
theorem Good.at {l : List Plc} {n e : Int} (h : Good l n e) {key : Bs} (hk : isKeyB key = true) : ∃ p, placeAt l key = some p ∧ blt key p.f = false ∧ (p.t = [] ∨ blt key p.t = true) := by
  have h1 := h.one key
  cases hp : placeAt l key with
  | none =>
    exfalso
    have h2 : (spansP l).countP (inS key) = 0 := by
      rw [List.countP_eq_zero]
      intro s hs
      obtain ⟨p, hp1, rfl⟩ := List.mem_map.1 hs
      obtain ⟨i, hi⟩ := List.getElem?_of_mem hp1
      have h3 := chainS_at h.chain (spans_get hi)
      have h4 := List.find?_eq_none.1 hp p hp1
      simp only at h3
      simp only [hasB, h3, hk, Bool.true_and, Bool.and_true] at h4
      simpa [inS] using h4
    omega
  | some p =>
    have h4 := List.find?_some hp
    simp only [hasB, Bool.and_eq_true, Bool.not_eq_true', Bool.or_eq_true, decide_eq_true_eq] at h4
    exact ⟨p, rfl, h4.1.2, h4.2⟩
theorem good_new : Good [⟨1, 1, 0, [], []⟩] 2 1 := ⟨by decide, by decide, by simp, by simp⟩
end Go.Proofs.Ytmlfknmpapbpgaa
