/-
  Order of texts; spans; plans and the parts of a span by a plan: plain laws, no program in sight. No conditions.
-/
import Derived.Test.YthcbffejjkmmfaaCh
namespace Go.Proofs.Ythcbffejjkmmfaa
open Go.RowKit
set_option linter.unusedSimpArgs false
set_option linter.unusedVariables false

theorem blt_irrefl (a : Bs) : blt a a = false := by
  unfold blt
  induction a with
  | nil => rfl
  | cons x a ih => simp [Op.bytesLess, ih]
theorem blt_trans {a b c : Bs} (h : blt a b = true) (k : blt b c = true) : blt a c = true := by
  unfold blt at *
  induction a generalizing b c with
  | nil => cases b <;> cases c <;> simp_all [Op.bytesLess]
  | cons x a ih =>
    cases b with
    | nil => simp [Op.bytesLess] at h
    | cons y b =>
      cases c with
      | nil => simp [Op.bytesLess] at k
      | cons z c =>
        simp only [Op.bytesLess, Bool.or_eq_true, decide_eq_true_eq, Bool.and_eq_true, beq_iff_eq] at *
        simp only [UInt8.lt_iff_toNat_lt, ← UInt8.toNat_inj] at *
        rcases h with h | ⟨h, h'⟩ <;> rcases k with k | ⟨k, k'⟩
        · exact .inl (by omega)
        · exact .inl (by omega)
        · exact .inl (by omega)
        · exact .inr ⟨by omega, ih h' k'⟩
theorem blt_total (a b : Bs) : blt a b = true ∨ a = b ∨ blt b a = true := by
  have h := blt_asymm a b
  unfold blt
  cases h1 : Op.bytesLess a b <;> cases h2 : Op.bytesLess b a <;> simp_all

theorem lt_nlt {a b c : Bs} (h : blt a b = true) (k : blt c b = false) : blt a c = true := by
  rcases blt_total a c with g | g | g
  · exact g
  · subst g; rw [h] at k; cases k
  · have := blt_trans g h; rw [k] at this; cases this
theorem nlt_lt {a b c : Bs} (h : blt b a = false) (k : blt b c = true) : blt a c = true := by
  rcases blt_total a c with g | g | g
  · exact g
  · subst g; rw [h] at k; cases k
  · have := blt_trans k g; rw [h] at this; cases this
theorem lt_max (k a c : Bs) : blt k (maxS a c) = (blt k a || blt k c) := by
  unfold maxS
  cases h : blt a c with
  | true =>
    cases h1 : blt k a with
    | true => simp [blt_trans h1 h]
    | false => simp
  | false =>
    cases h1 : blt k c with
    | true => simp [lt_nlt h1 h]
    | false => simp
theorem lt_min (k b d : Bs) : blt k (minS b d) = (blt k b && blt k d) := by
  unfold minS
  cases h : blt d b with
  | true =>
    cases h1 : blt k d with
    | true => simp [blt_trans h1 h, h1]
    | false => simp [h1]
  | false =>
    cases h1 : blt k b with
    | true =>
      have : blt k d = true := by
        rcases blt_total b d with g | g | g
        · exact blt_trans h1 g
        · subst g; exact h1
        · rw [h] at g; cases g
      simp [this, h1]
    | false => simp [h1]
theorem lt_snoc (l : Bs) (b : UInt8) : blt l (l ++ [b]) = true := by
  unfold blt
  induction l with
  | nil => rfl
  | cons x l ih => simp [Op.bytesLess, ih]

def lim (t k : Bs) : Bool := decide (t = []) || blt k t
theorem blt_nil (k : Bs) : blt k [] = false := by cases k <;> rfl
theorem hasB_eq (s : Span) (k : Bs) : hasB s k = (isB s && isKeyB k && !blt k s.f && lim s.t k) := rfl
theorem lim_low (a b k : Bs) : lim (lowOf a b) k = (lim a k && lim b k) := by
  unfold lowOf
  split
  · rename_i h; subst h; simp [lim]
  · rename_i ha
    split
    · rename_i h; subst h; simp [lim]
    · rename_i hb
      have hm : minS a b ≠ [] := by unfold minS; split <;> assumption
      simp only [lim, ha, hb, hm, decide_false, Bool.false_or]
      exact lt_min k a b
theorem isB_lim {s : Span} (h : isB s = true) : lim s.t s.f = true := by
  unfold isB at h; unfold lim
  simp only [Bool.and_eq_true] at h; exact h.2
theorem lim_le {t k f : Bs} (h : lim t k = true) (hf : blt k f = false) : lim t f = true := by
  unfold lim at *
  cases ht : decide (t = []) with
  | true => rfl
  | false =>
    rw [ht, Bool.false_or] at h
    rw [Bool.false_or]
    exact nlt_lt hf h
theorem max_l (a b : Bs) : blt (maxS a b) a = false := by
  have := lt_max (maxS a b) a b
  rw [blt_irrefl] at this
  cases h : blt (maxS a b) a with
  | false => rfl
  | true => rw [h] at this; simp at this
theorem max_r (a b : Bs) : blt (maxS a b) b = false := by
  have := lt_max (maxS a b) a b
  rw [blt_irrefl] at this
  cases h : blt (maxS a b) b with
  | false => rfl
  | true => rw [h] at this; simp at this
theorem meetB_eq (p s : Span) (hp : isB p = true) (hs : isB s = true) : meetB p s = lim (lowOf p.t s.t) (maxS p.f s.f) := by
  simp only [meetB, both, hp, hs, Bool.true_and, lim]
  rfl
theorem isB_both' (p s : Span) (hp : isB p = true) (hs : isB s = true) : isB (both p s) = meetB p s := by
  rw [meetB_eq p s hp hs]; exact isB_both p s hp hs
theorem meet_has (p s : Span) (k : Bs) (hp : isB p = true) (hs : isB s = true) : (meetB p s && hasB (both p s) k) = (hasB p k && hasB s k) := by
  rw [hasB_eq, hasB_eq, hasB_eq, isB_both' p s hp hs, hp, hs, meetB_eq p s hp hs]
  show (lim (lowOf p.t s.t) (maxS p.f s.f) && (lim (lowOf p.t s.t) (maxS p.f s.f) && isKeyB k && !blt k (maxS p.f s.f) && lim (lowOf p.t s.t) k)) = _
  have h2 := lt_max k p.f s.f
  have h5 := lim_low p.t s.t k
  cases h1 : blt k (maxS p.f s.f) with
  | true =>
    rw [h1] at h2
    rcases Bool.or_eq_true_iff.1 h2.symm with h | h <;> simp [h]
  | false =>
    rw [h1] at h2
    obtain ⟨h3, h4⟩ := Bool.or_eq_false_iff.1 h2.symm
    rw [h3, h4]
    cases h6 : lim (lowOf p.t s.t) k with
    | false =>
      rw [h6] at h5
      rcases Bool.and_eq_false_iff.1 h5.symm with h | h <;> simp [h]
    | true =>
      rw [lim_le h6 h1]
      rw [h6] at h5
      obtain ⟨h7, h8⟩ := Bool.and_eq_true_iff.1 h5.symm
      rw [h7, h8]; cases isKeyB k <;> rfl

/-- places side by side, from b on -/
def Chn : Bs → List Place → Prop
  | _, [] => False
  | b, p :: r => isB p.s = true ∧ p.s.f = b ∧ ((r = [] ∧ p.s.t = []) ∨ (p.s.t ≠ [] ∧ Chn p.s.t r))
theorem Chn.lt {p : Place} (hp : isB p.s = true) (ht : p.s.t ≠ []) : blt p.s.f p.s.t = true := by
  have := isB_lim hp
  simpa [lim, ht] using this
theorem Chn.all : ∀ {l : List Place} {b : Bs}, Chn b l → ∀ x ∈ l, isB x.s = true ∧ blt x.s.f b = false
  | p :: r, b, ⟨h1, h2, h3⟩, x, hx => by
    rcases List.mem_cons.1 hx with rfl | hx
    · exact ⟨h1, by rw [h2]; exact blt_irrefl b⟩
    · rcases h3 with ⟨rfl, _⟩ | ⟨h3, h4⟩
      · cases hx
      · obtain ⟨k1, k2⟩ := h4.all x hx
        refine ⟨k1, ?_⟩
        cases hq : blt x.s.f b with
        | false => rfl
        | true =>
          have := blt_trans hq (by rw [← h2]; exact Chn.lt h1 h3)
          rw [k2] at this; cases this
theorem Chn.one {k : Bs} (hk : isKeyB k = true) : ∀ {l : List Place} {b : Bs}, Chn b l → (blt k b = true → l.filter (fun p => hasB p.s k) = []) ∧ (blt k b = false → ∃ u, l.filter (fun p => hasB p.s k) = [u])
  | p :: r, b, ⟨h1, h2, h3⟩ => by
    have hb : hasB p.s k = (!blt k b && lim p.s.t k) := by rw [hasB_eq, h1, hk, h2]; simp
    rcases h3 with ⟨rfl, h3⟩ | ⟨h3, h4⟩
    · have : lim p.s.t k = true := by simp [lim, h3]
      rw [this, Bool.and_true] at hb
      exact ⟨fun h => by simp [hb, h], fun h => ⟨p, by simp [hb, h]⟩⟩
    · have hl : lim p.s.t k = blt k p.s.t := by simp [lim, h3]
      rw [hl] at hb
      obtain ⟨i1, i2⟩ := Chn.one hk h4
      have hlt := Chn.lt h1 h3
      rw [h2] at hlt
      refine ⟨fun h => ?_, fun h => ?_⟩
      · have := blt_trans h hlt
        simp [hb, h, i1 this]
      · cases hq : blt k p.s.t with
        | true => exact ⟨p, by simp [hb, h, hq, i1 hq]⟩
        | false => obtain ⟨u, hu⟩ := i2 hq; exact ⟨u, by simp [hb, h, hq, hu]⟩
/-- spans side by side -/
def Tch : List Place → Prop
  | a :: b :: r => touchB a.s b.s = true ∧ Tch (b :: r)
  | _ => True
theorem Tch.get : ∀ {l : List Place} {i : Nat} {a b : Place}, Tch l → l[i]? = some a → l[i + 1]? = some b → touchB a.s b.s = true
  | [], i, a, b, _, h, _ => by simp at h
  | [_], i, a, b, _, h, k => by cases i <;> simp at h k
  | x :: y :: r, 0, a, b, ⟨h1, _⟩, h, k => by simp at h k; subst h; subst k; exact h1
  | x :: y :: r, i + 1, a, b, ⟨_, h2⟩, h, k => Tch.get h2 (by simpa using h) (by simpa using k)
theorem mem_parts {l : List Place} {s : Span} {x : Place} (h : x ∈ parts l s) : ∃ p ∈ l, meetB p.s s = true ∧ x = { p with s := both p.s s } := by
  obtain ⟨p, hp, hx⟩ := List.mem_filterMap.1 h
  unfold partOf at hx
  split at hx
  · rename_i hm; cases hx; exact ⟨p, hp, hm, rfl⟩
  · cases hx
theorem parts_cons (p : Place) (l : List Place) (s : Span) : parts (p :: l) s = if meetB p.s s then { p with s := both p.s s } :: parts l s else parts l s := by
  simp only [parts, List.filterMap_cons, partOf]
  split <;> simp_all
theorem max_of_lt {a b : Bs} (h : blt b a = true) : maxS a b = a := by
  unfold maxS
  cases hq : blt a b with
  | false => simp
  | true => have := blt_trans h hq; rw [blt_irrefl] at this; cases this
theorem meet_lims {p s : Span} (hp : isB p = true) (hs : isB s = true) (h : meetB p s = true) : lim p.t s.f = true ∧ lim s.t p.f = true := by
  rw [meetB_eq p s hp hs, lim_low, Bool.and_eq_true] at h
  exact ⟨lim_le h.1 (max_r _ _), lim_le h.2 (max_l _ _)⟩
theorem head_meets {r : List Place} {b : Bs} {s : Span} (hc : Chn b r) (hs : isB s = true) (hb : blt s.f b = true) {x : Place} (hx : x ∈ parts r s) : ∃ q r', r = q :: r' ∧ meetB q.s s = true ∧ lim s.t b = true := by
  obtain ⟨y, hy, hm, _⟩ := mem_parts hx
  obtain ⟨y1, y2⟩ := hc.all y hy
  have hlim : lim s.t b = true := lim_le (meet_lims y1 hs hm).2 y2
  cases r with
  | nil => exact hc.elim
  | cons q r' =>
    obtain ⟨h1, h2, h3⟩ := hc
    refine ⟨q, r', rfl, ?_, hlim⟩
    rw [meetB_eq q.s s h1 hs, h2, max_of_lt hb, lim_low, hlim, Bool.and_true, ← h2]
    exact isB_lim h1
theorem parts_touch {s : Span} (hs : isB s = true) : ∀ {l : List Place} {b : Bs}, Chn b l → Tch (parts l s)
  | p :: r, b, ⟨h1, h2, h3⟩ => by
    rw [parts_cons]
    rcases h3 with ⟨rfl, h3⟩ | ⟨h3, h4⟩
    · split <;> simp [parts, Tch]
    · have ih := parts_touch hs h4
      split
      · rename_i hm
        cases hq : parts r s with
        | nil => trivial
        | cons x rest =>
          have hlim := (meet_lims h1 hs hm).1
          have hsf : blt s.f p.s.t = true := by simpa [lim, h3] using hlim
          obtain ⟨q, r', rfl, hmq, hst⟩ := head_meets (x := x) h4 hs hsf (by rw [hq]; exact List.mem_cons_self)
          obtain ⟨g1, g2, _⟩ := h4
          rw [parts_cons, if_pos hmq] at hq
          cases hq
          rw [parts_cons, if_pos hmq] at ih
          refine ⟨?_, ih⟩
          have hlow : lowOf p.s.t s.t = p.s.t := by
            unfold lowOf
            rw [if_neg h3]
            split
            · rfl
            · rename_i hne
              unfold minS
              rw [if_neg]
              have : blt p.s.t s.t = true := by simpa [lim, hne] using hst
              intro hh
              have := blt_trans this hh
              rw [blt_irrefl] at this; cases this
          have hmax : maxS q.s.f s.f = p.s.t := by rw [g2]; exact max_of_lt hsf
          have e1 := isB_both' p.s s h1 hs
          have e2 := isB_both' q.s s g1 hs
          rw [hm] at e1
          rw [hmq] at e2
          simp only [both, hlow, hmax] at e1 e2
          simp [touchB, both, hlow, hmax, e1, e2, h3]
      · exact ih

theorem chn_of {l : List Place} (hl : isPlan l = true) : Chn [] l := by
  simp only [isPlan, headB, Bool.and_eq_true, decide_eq_true_eq, List.all_eq_true, List.mem_range] at hl
  obtain ⟨⟨⟨⟨h1, h2⟩, h3⟩, h4⟩, h5⟩ := hl
  have key : ∀ n k, k + n + 1 = l.length → Chn (l.getD k zeroP).s.f (l.drop k) := fun n => by
    induction n with
    | zero =>
      intro k hk
      have hlt : k < l.length := by omega
      have h6 := h5 k hlt
      simp only [roundB, placeB, Bool.and_eq_true] at h6
      rw [List.drop_eq_getElem_cons hlt, List.drop_eq_nil_of_le (by omega)]
      have hg : l.getD k zeroP = l[k] := by simp [List.getD, hlt]
      rw [hg] at h6 ⊢
      refine ⟨h6.1.1.2, rfl, .inl ⟨rfl, ?_⟩⟩
      rw [show l.length - 1 = k by omega, hg] at h4
      exact h4
    | succ n ih =>
      intro k hk
      have hlt : k < l.length := by omega
      have h6 := h5 k hlt
      have h7 := h5 (k + 1) (by omega)
      simp only [roundB, placeB, Bool.and_eq_true] at h6 h7
      rw [List.drop_eq_getElem_cons hlt]
      have hg : l.getD k zeroP = l[k] := by simp [List.getD, hlt]
      have h8 := h7.1.2
      simp only [Nat.add_sub_cancel, Nat.add_one_ne_zero, decide_false, Bool.false_or, touchB, Bool.and_eq_true, Bool.not_eq_true', decide_eq_false_iff_not, decide_eq_true_eq] at h8
      rw [hg] at h6 h8 ⊢
      refine ⟨h6.1.1.2, rfl, .inr ⟨h8.1.2, ?_⟩⟩
      rw [h8.2]
      exact ih (k + 1) (by omega)
  have := key (l.length - 1) 0 (by omega)
  rw [h3] at this
  simpa using this
/-- a key has one place -/
theorem plan_one {l : List Place} {k : Bs} (hl : isPlan l = true) (hk : isKeyB k = true) : ∃ u, l.filter (fun p => hasB p.s k) = [u] := (Chn.one hk (chn_of hl)).2 (blt_nil k)
theorem placeAt_of {l : List Place} {k : Bs} {u : Place} (h : l.filter (fun p => hasB p.s k) = [u]) : placeAt l k = some u := by
  unfold placeAt
  rw [← List.head?_filter, h]; rfl
theorem plan_at {l : List Place} {k : Bs} {p : Place} (hl : isPlan l = true) (hp : p ∈ l) (h : hasB p.s k = true) : placeAt l k = some p := by
  have hk : isKeyB k = true := by rw [hasB_eq] at h; simp only [Bool.and_eq_true] at h; exact h.1.1.2
  obtain ⟨u, hu⟩ := plan_one hl hk
  have : p ∈ l.filter (fun p => hasB p.s k) := List.mem_filter.2 ⟨hp, h⟩
  rw [hu, List.mem_singleton] at this
  subst this
  exact placeAt_of hu
theorem parts_has {s : Span} {k : Bs} (hs : isB s = true) : ∀ {l : List Place}, (∀ p ∈ l, isB p.s = true) → ((parts l s).filter fun p => hasB p.s k).length = if hasB s k then (l.filter fun p => hasB p.s k).length else 0
  | [], _ => by simp [parts]
  | p :: l, h => by
    have ih := parts_has (k := k) hs (l := l) fun q hq => h q (List.mem_cons_of_mem _ hq)
    have hm := meet_has p.s s k (h p List.mem_cons_self) hs
    rw [parts_cons]
    cases h1 : meetB p.s s <;> cases h2 : hasB (both p.s s) k <;> cases h3 : hasB p.s k <;> cases h4 : hasB s k <;> simp_all
end Go.Proofs.Ythcbffejjkmmfaa
