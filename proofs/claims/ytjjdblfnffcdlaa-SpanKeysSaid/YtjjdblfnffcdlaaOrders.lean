/-
  The plain law of 'SpanOrders' and its walk: of every three spans the law answers true. Condition: the texts are no longer than a length can say.
-/
import Derived.Test.YtjjdblfnffcdlaaKnown
namespace Go.Proofs.Ytjjdblfnffcdlaa
open Go.RowKit
set_option linter.unusedSimpArgs false
set_option linter.unusedVariables false

theorem maxB_comm (a b : Bs) : maxB a b = maxB b a := by
  unfold maxB
  rcases blt_total a b with h | h | h
  · have h2 : blt b a = false := by
      cases e : blt b a with
      | false => rfl
      | true => have := blt_trans h e; rw [blt_irrefl] at this; cases this
    simp [h, h2]
  · subst h; rfl
  · have h2 : blt a b = false := by
      cases e : blt a b with
      | false => rfl
      | true => have := blt_trans h e; rw [blt_irrefl] at this; cases this
    simp [h, h2]
theorem minB_comm (a b : Bs) : minB a b = minB b a := by
  unfold minB
  rcases blt_total a b with h | h | h
  · have h2 : blt b a = false := by
      cases e : blt b a with
      | false => rfl
      | true => have := blt_trans h e; rw [blt_irrefl] at this; cases this
    simp [h, h2]
  · subst h; rfl
  · have h2 : blt a b = false := by
      cases e : blt a b with
      | false => rfl
      | true => have := blt_trans h e; rw [blt_irrefl] at this; cases this
    simp [h, h2]
theorem lowOf_comm (a b : Bs) : lowOf a b = lowOf b a := by
  unfold lowOf
  cases a <;> cases b <;> simp [minB_comm]
theorem meetB_comm (a b c d : Bs) : meetB c d a b = meetB a b c d := by
  unfold meetB
  rw [maxB_comm c a, lowOf_comm d b, Bool.and_comm (isB c d)]
theorem meetV_comm (a b c d : Bs) : meetV c d a b = meetV a b c d := by
  unfold meetV
  rw [meetB_comm, maxB_comm c a, lowOf_comm d b]
theorem blt_asymm' {a b : Bs} (h : blt a b = true) : blt b a = false := by
  cases e : blt b a with
  | false => rfl
  | true => have := blt_trans h e; rw [blt_irrefl] at this; cases this
/-- not below, and not below again -/
theorem nlt_trans {a b c : Bs} (h : blt a b = false) (k : blt b c = false) : blt a c = false := by
  cases e : blt a c with
  | false => rfl
  | true =>
    rcases blt_total b c with g | g | g
    · rw [k] at g; cases g
    · subst g; rw [h] at e; cases e
    · have := blt_trans e g; rw [h] at this; cases this
theorem maxB_ge_left (a c : Bs) : blt (maxB a c) a = false := by
  unfold maxB; split
  · exact blt_asymm' ‹_›
  · exact blt_irrefl a
theorem minB_le_left (a c : Bs) : blt a (minB a c) = false := by
  unfold minB; split
  · exact blt_asymm' ‹_›
  · exact blt_irrefl a
theorem within_refl (a b : Bs) (h : isB a b = true) : withinB a b a b = true := by
  unfold withinB
  simp [h, blt_irrefl]
theorem within_trans (a b c d e f : Bs) (h : withinB a b c d = true) (k : withinB c d e f = true) : withinB a b e f = true := by
  unfold withinB at *
  simp only [Bool.and_eq_true, Bool.or_eq_true, Bool.not_eq_true', List.isEmpty_iff] at *
  obtain ⟨⟨⟨h1, h2⟩, h3⟩, h4⟩ := h
  obtain ⟨⟨⟨k1, k2⟩, k3⟩, k4⟩ := k
  refine ⟨⟨⟨h1, k2⟩, nlt_trans h3 k3⟩, ?_⟩
  rcases k4 with k4 | ⟨k4, k5⟩
  · exact .inl k4
  · rcases h4 with h4 | ⟨h4, h5⟩
    · subst h4; simp at k4
    · exact .inr ⟨h4, nlt_trans k5 h5⟩
theorem meet_within (a b c d : Bs) (h : meetB a b c d = true) : withinB (maxB a c) (lowOf b d) a b = true := by
  have h0 := h
  unfold meetB at h
  simp only [Bool.and_eq_true] at h
  obtain ⟨⟨h1, h2⟩, h3⟩ := h
  have hi := isB_meet a b c d h1 h2
  unfold withinB
  rw [hi, h3, h1, maxB_ge_left]
  unfold lowOf
  cases b with
  | nil => simp
  | cons x b =>
    cases d with
    | nil => simp [blt_irrefl]
    | cons y d =>
      simp only [List.isEmpty_cons, Bool.false_eq_true, if_false, Bool.not_false, Bool.true_and, Bool.false_or, Bool.and_eq_true, Bool.not_eq_true']
      refine ⟨?_, minB_le_left _ _⟩
      unfold minB; split <;> rfl
theorem within_meet (a b c d : Bs) (h : withinB a b c d = true) : meetB a b c d = true ∧ maxB a c = a ∧ lowOf b d = b := by
  unfold withinB at h
  simp only [Bool.and_eq_true, Bool.or_eq_true, Bool.not_eq_true', List.isEmpty_iff] at h
  obtain ⟨⟨⟨h1, h2⟩, h3⟩, h4⟩ := h
  have e1 : maxB a c = a := by unfold maxB; simp [h3]
  have e2 : lowOf b d = b := by
    unfold lowOf
    rcases h4 with h4 | ⟨h4, h5⟩
    · subst h4; cases b <;> simp
    · cases b with
      | nil => simp at h4
      | cons x b =>
        cases d with
        | nil => simp
        | cons y d => simp [minB, h5]
  refine ⟨?_, e1, e2⟩
  unfold meetB
  rw [e1, e2, h1, h2]
  unfold isB at h1
  simp only [Bool.and_eq_true] at h1
  simpa using h1.2

set_option maxRecDepth 100000 in
set_option maxHeartbeats 2000000 in
theorem spanOrders_in (a b c d e f x y : Bs) (m w1 w2 w3 : Bool) (w : World) (ha : a.length ≤ maxLen) (hb : b.length ≤ maxLen) (hc : c.length ≤ maxLen) (hd : d.length ≤ maxLen) (he : e.length ≤ maxLen) (hf : f.length ≤ maxLen)
    (hx : x.length ≤ maxLen) (hy : y.length ≤ maxLen) (i1 : isB a b = true) (i2 : isB c d = true) (i3 : isB e f = true) (v1 : meetV a b c d = .agg #[S x, S y]) (v2 : meetV c d a b = .agg #[S x, S y])
    (m1 : meetB a b c d = m) (m2 : meetB c d a b = m) (r : withinB a b a b = true) (n1 : m = true → withinB x y a b = true) (n2 : m = true → withinB x y c d = true) (q1 : withinB a b c d = w1) (q2 : withinB c d e f = w2) (q3 : withinB a b e f = w3)
    (g1 : w1 = true → m = true ∧ x = a ∧ y = b) (g2 : w1 = true → w2 = true → w3 = true) :
    Calls Try.prog 5 #[.agg #[S a, S b], .agg #[S c, S d], .agg #[S e, S f]] w fun e w' => e = .returned (.bool true) ∧ Grew w w' := by
  cases w1 with
  | true =>
    obtain ⟨rfl, rfl, rfl⟩ := g1 rfl
    replace n1 := n1 rfl
    replace n2 := n2 rfl
    cases w2 with
    | true =>
      have q4 := q3.trans (g2 rfl rfl)
      clear q3 g1 g2 n1
      have hG := Grew.refl w
      have K := Owns.nil w
      go_enter Try.func5, Try.ntmps5
      go_wp2_with (first | (go_at_call 7; refine (known_any _).mono ?_; rintro e w1 ⟨rfl, hb1⟩; (try clear KO); refine Grew.step (a := w) hb1 ?_ ?_; (focus ((repeat (first | exact hG | refine Grew.drew ?_ | refine Grew.alloc ?_ | refine Grew.setCell ?_ ?_)) <;> simp)); clear hG; intro hG; apply Owns.step hb1; (focus ((repeat (first | exact K | apply Owns.alloc | apply Owns.drew | apply Owns.set)) <;> simp)); clear K; intro K; have KO := K; (try simp [Owns, setIn] at KO)) | (go_at_call 8; refine (meet_any _ _ _ _ _ (by assumption) (by assumption) (by assumption) (by assumption)).mono ?_; rintro e w1 ⟨rfl, hb1⟩; (try clear KO); refine Grew.step (a := w) hb1 ?_ ?_; (focus ((repeat (first | exact hG | refine Grew.drew ?_ | refine Grew.alloc ?_ | refine Grew.setCell ?_ ?_)) <;> simp)); clear hG; intro hG; apply Owns.step hb1; (focus ((repeat (first | exact K | apply Owns.alloc | apply Owns.drew | apply Owns.set)) <;> simp)); clear K; intro K; have KO := K; (try simp [Owns, setIn] at KO)) | (go_at_call 14; refine (is_any _ _ _ (by assumption) (by assumption)).mono ?_; rintro e w1 ⟨rfl, hb1⟩; (try clear KO); refine Grew.step (a := w) hb1 ?_ ?_; (focus ((repeat (first | exact hG | refine Grew.drew ?_ | refine Grew.alloc ?_ | refine Grew.setCell ?_ ?_)) <;> simp)); clear hG; intro hG; apply Owns.step hb1; (focus ((repeat (first | exact K | apply Owns.alloc | apply Owns.drew | apply Owns.set)) <;> simp)); clear K; intro K; have KO := K; (try simp [Owns, setIn] at KO)) | (go_at_call 18; refine (within_any _ _ _ _ _ (by assumption) (by assumption) (by assumption) (by assumption)).mono ?_; rintro e w1 ⟨rfl, hb1⟩; (try clear KO); refine Grew.step (a := w) hb1 ?_ ?_; (focus ((repeat (first | exact hG | refine Grew.drew ?_ | refine Grew.alloc ?_ | refine Grew.setCell ?_ ?_)) <;> simp)); clear hG; intro hG; apply Owns.step hb1; (focus ((repeat (first | exact K | apply Owns.alloc | apply Owns.drew | apply Owns.set)) <;> simp)); clear K; intro K; have KO := K; (try simp [Owns, setIn] at KO)))
      (go_ret; exact ⟨rfl, by (repeat (first | exact hG | refine Grew.drew ?_ | refine Grew.alloc ?_ | refine Grew.setCell ?_ ?_))⟩)
    | false =>
      clear q3 g1 g2 n1
      have hG := Grew.refl w
      have K := Owns.nil w
      go_enter Try.func5, Try.ntmps5
      go_wp2_with (first | (go_at_call 7; refine (known_any _).mono ?_; rintro e w1 ⟨rfl, hb1⟩; (try clear KO); refine Grew.step (a := w) hb1 ?_ ?_; (focus ((repeat (first | exact hG | refine Grew.drew ?_ | refine Grew.alloc ?_ | refine Grew.setCell ?_ ?_)) <;> simp)); clear hG; intro hG; apply Owns.step hb1; (focus ((repeat (first | exact K | apply Owns.alloc | apply Owns.drew | apply Owns.set)) <;> simp)); clear K; intro K; have KO := K; (try simp [Owns, setIn] at KO)) | (go_at_call 8; refine (meet_any _ _ _ _ _ (by assumption) (by assumption) (by assumption) (by assumption)).mono ?_; rintro e w1 ⟨rfl, hb1⟩; (try clear KO); refine Grew.step (a := w) hb1 ?_ ?_; (focus ((repeat (first | exact hG | refine Grew.drew ?_ | refine Grew.alloc ?_ | refine Grew.setCell ?_ ?_)) <;> simp)); clear hG; intro hG; apply Owns.step hb1; (focus ((repeat (first | exact K | apply Owns.alloc | apply Owns.drew | apply Owns.set)) <;> simp)); clear K; intro K; have KO := K; (try simp [Owns, setIn] at KO)) | (go_at_call 14; refine (is_any _ _ _ (by assumption) (by assumption)).mono ?_; rintro e w1 ⟨rfl, hb1⟩; (try clear KO); refine Grew.step (a := w) hb1 ?_ ?_; (focus ((repeat (first | exact hG | refine Grew.drew ?_ | refine Grew.alloc ?_ | refine Grew.setCell ?_ ?_)) <;> simp)); clear hG; intro hG; apply Owns.step hb1; (focus ((repeat (first | exact K | apply Owns.alloc | apply Owns.drew | apply Owns.set)) <;> simp)); clear K; intro K; have KO := K; (try simp [Owns, setIn] at KO)) | (go_at_call 18; refine (within_any _ _ _ _ _ (by assumption) (by assumption) (by assumption) (by assumption)).mono ?_; rintro e w1 ⟨rfl, hb1⟩; (try clear KO); refine Grew.step (a := w) hb1 ?_ ?_; (focus ((repeat (first | exact hG | refine Grew.drew ?_ | refine Grew.alloc ?_ | refine Grew.setCell ?_ ?_)) <;> simp)); clear hG; intro hG; apply Owns.step hb1; (focus ((repeat (first | exact K | apply Owns.alloc | apply Owns.drew | apply Owns.set)) <;> simp)); clear K; intro K; have KO := K; (try simp [Owns, setIn] at KO)))
      (go_ret; exact ⟨rfl, by (repeat (first | exact hG | refine Grew.drew ?_ | refine Grew.alloc ?_ | refine Grew.setCell ?_ ?_))⟩)
  | false =>
    clear q3 q2 g1 g2
    cases m with
    | true =>
      replace n1 := n1 rfl
      replace n2 := n2 rfl
      have hG := Grew.refl w
      have K := Owns.nil w
      go_enter Try.func5, Try.ntmps5
      go_wp2_with (first | (go_at_call 7; refine (known_any _).mono ?_; rintro e w1 ⟨rfl, hb1⟩; (try clear KO); refine Grew.step (a := w) hb1 ?_ ?_; (focus ((repeat (first | exact hG | refine Grew.drew ?_ | refine Grew.alloc ?_ | refine Grew.setCell ?_ ?_)) <;> simp)); clear hG; intro hG; apply Owns.step hb1; (focus ((repeat (first | exact K | apply Owns.alloc | apply Owns.drew | apply Owns.set)) <;> simp)); clear K; intro K; have KO := K; (try simp [Owns, setIn] at KO)) | (go_at_call 8; refine (meet_any _ _ _ _ _ (by assumption) (by assumption) (by assumption) (by assumption)).mono ?_; rintro e w1 ⟨rfl, hb1⟩; (try clear KO); refine Grew.step (a := w) hb1 ?_ ?_; (focus ((repeat (first | exact hG | refine Grew.drew ?_ | refine Grew.alloc ?_ | refine Grew.setCell ?_ ?_)) <;> simp)); clear hG; intro hG; apply Owns.step hb1; (focus ((repeat (first | exact K | apply Owns.alloc | apply Owns.drew | apply Owns.set)) <;> simp)); clear K; intro K; have KO := K; (try simp [Owns, setIn] at KO)) | (go_at_call 14; refine (is_any _ _ _ (by assumption) (by assumption)).mono ?_; rintro e w1 ⟨rfl, hb1⟩; (try clear KO); refine Grew.step (a := w) hb1 ?_ ?_; (focus ((repeat (first | exact hG | refine Grew.drew ?_ | refine Grew.alloc ?_ | refine Grew.setCell ?_ ?_)) <;> simp)); clear hG; intro hG; apply Owns.step hb1; (focus ((repeat (first | exact K | apply Owns.alloc | apply Owns.drew | apply Owns.set)) <;> simp)); clear K; intro K; have KO := K; (try simp [Owns, setIn] at KO)) | (go_at_call 18; refine (within_any _ _ _ _ _ (by assumption) (by assumption) (by assumption) (by assumption)).mono ?_; rintro e w1 ⟨rfl, hb1⟩; (try clear KO); refine Grew.step (a := w) hb1 ?_ ?_; (focus ((repeat (first | exact hG | refine Grew.drew ?_ | refine Grew.alloc ?_ | refine Grew.setCell ?_ ?_)) <;> simp)); clear hG; intro hG; apply Owns.step hb1; (focus ((repeat (first | exact K | apply Owns.alloc | apply Owns.drew | apply Owns.set)) <;> simp)); clear K; intro K; have KO := K; (try simp [Owns, setIn] at KO)))
      (go_ret; exact ⟨rfl, by (repeat (first | exact hG | refine Grew.drew ?_ | refine Grew.alloc ?_ | refine Grew.setCell ?_ ?_))⟩)
    | false =>
      clear n1 n2
      have hG := Grew.refl w
      have K := Owns.nil w
      go_enter Try.func5, Try.ntmps5
      go_wp2_with (first | (go_at_call 7; refine (known_any _).mono ?_; rintro e w1 ⟨rfl, hb1⟩; (try clear KO); refine Grew.step (a := w) hb1 ?_ ?_; (focus ((repeat (first | exact hG | refine Grew.drew ?_ | refine Grew.alloc ?_ | refine Grew.setCell ?_ ?_)) <;> simp)); clear hG; intro hG; apply Owns.step hb1; (focus ((repeat (first | exact K | apply Owns.alloc | apply Owns.drew | apply Owns.set)) <;> simp)); clear K; intro K; have KO := K; (try simp [Owns, setIn] at KO)) | (go_at_call 8; refine (meet_any _ _ _ _ _ (by assumption) (by assumption) (by assumption) (by assumption)).mono ?_; rintro e w1 ⟨rfl, hb1⟩; (try clear KO); refine Grew.step (a := w) hb1 ?_ ?_; (focus ((repeat (first | exact hG | refine Grew.drew ?_ | refine Grew.alloc ?_ | refine Grew.setCell ?_ ?_)) <;> simp)); clear hG; intro hG; apply Owns.step hb1; (focus ((repeat (first | exact K | apply Owns.alloc | apply Owns.drew | apply Owns.set)) <;> simp)); clear K; intro K; have KO := K; (try simp [Owns, setIn] at KO)) | (go_at_call 14; refine (is_any _ _ _ (by assumption) (by assumption)).mono ?_; rintro e w1 ⟨rfl, hb1⟩; (try clear KO); refine Grew.step (a := w) hb1 ?_ ?_; (focus ((repeat (first | exact hG | refine Grew.drew ?_ | refine Grew.alloc ?_ | refine Grew.setCell ?_ ?_)) <;> simp)); clear hG; intro hG; apply Owns.step hb1; (focus ((repeat (first | exact K | apply Owns.alloc | apply Owns.drew | apply Owns.set)) <;> simp)); clear K; intro K; have KO := K; (try simp [Owns, setIn] at KO)) | (go_at_call 18; refine (within_any _ _ _ _ _ (by assumption) (by assumption) (by assumption) (by assumption)).mono ?_; rintro e w1 ⟨rfl, hb1⟩; (try clear KO); refine Grew.step (a := w) hb1 ?_ ?_; (focus ((repeat (first | exact hG | refine Grew.drew ?_ | refine Grew.alloc ?_ | refine Grew.setCell ?_ ?_)) <;> simp)); clear hG; intro hG; apply Owns.step hb1; (focus ((repeat (first | exact K | apply Owns.alloc | apply Owns.drew | apply Owns.set)) <;> simp)); clear K; intro K; have KO := K; (try simp [Owns, setIn] at KO)))
      (go_ret; exact ⟨rfl, by (repeat (first | exact hG | refine Grew.drew ?_ | refine Grew.alloc ?_ | refine Grew.setCell ?_ ?_))⟩)

set_option maxRecDepth 100000 in
set_option maxHeartbeats 2000000 in
theorem spanOrders_out (a b c d e f : Bs) (w : World) (ha : a.length ≤ maxLen) (hb : b.length ≤ maxLen) (hc : c.length ≤ maxLen) (hd : d.length ≤ maxLen) (he : e.length ≤ maxLen) (hf : f.length ≤ maxLen)
    (h : isB a b = false ∨ isB c d = false ∨ isB e f = false) :
    Calls Try.prog 5 #[.agg #[S a, S b], .agg #[S c, S d], .agg #[S e, S f]] w fun e w' => e = .returned (.bool true) ∧ Grew w w' := by
  have hG := Grew.refl w
  have K := Owns.nil w
  by_cases h1 : isB a b = true
  · by_cases h2 : isB c d = true
    · have h3 : isB e f = false := by simp_all
      clear h
      go_enter Try.func5, Try.ntmps5
      go_wp2_with (first | (go_at_call 7; refine (known_any _).mono ?_; rintro e w1 ⟨rfl, hb1⟩; (try clear KO); refine Grew.step (a := w) hb1 ?_ ?_; (focus ((repeat (first | exact hG | refine Grew.drew ?_ | refine Grew.alloc ?_ | refine Grew.setCell ?_ ?_)) <;> simp)); clear hG; intro hG; apply Owns.step hb1; (focus ((repeat (first | exact K | apply Owns.alloc | apply Owns.drew | apply Owns.set)) <;> simp)); clear K; intro K; have KO := K; (try simp [Owns, setIn] at KO)) | (go_at_call 8; refine (meet_any _ _ _ _ _ (by assumption) (by assumption) (by assumption) (by assumption)).mono ?_; rintro e w1 ⟨rfl, hb1⟩; (try clear KO); refine Grew.step (a := w) hb1 ?_ ?_; (focus ((repeat (first | exact hG | refine Grew.drew ?_ | refine Grew.alloc ?_ | refine Grew.setCell ?_ ?_)) <;> simp)); clear hG; intro hG; apply Owns.step hb1; (focus ((repeat (first | exact K | apply Owns.alloc | apply Owns.drew | apply Owns.set)) <;> simp)); clear K; intro K; have KO := K; (try simp [Owns, setIn] at KO)) | (go_at_call 14; refine (is_any _ _ _ (by assumption) (by assumption)).mono ?_; rintro e w1 ⟨rfl, hb1⟩; (try clear KO); refine Grew.step (a := w) hb1 ?_ ?_; (focus ((repeat (first | exact hG | refine Grew.drew ?_ | refine Grew.alloc ?_ | refine Grew.setCell ?_ ?_)) <;> simp)); clear hG; intro hG; apply Owns.step hb1; (focus ((repeat (first | exact K | apply Owns.alloc | apply Owns.drew | apply Owns.set)) <;> simp)); clear K; intro K; have KO := K; (try simp [Owns, setIn] at KO)))
      (go_ret; exact ⟨rfl, by (repeat (first | exact hG | refine Grew.drew ?_ | refine Grew.alloc ?_ | refine Grew.setCell ?_ ?_))⟩)
    · have h2 : isB c d = false := by simp_all
      clear h
      go_enter Try.func5, Try.ntmps5
      go_wp2_with (first | (go_at_call 7; refine (known_any _).mono ?_; rintro e w1 ⟨rfl, hb1⟩; (try clear KO); refine Grew.step (a := w) hb1 ?_ ?_; (focus ((repeat (first | exact hG | refine Grew.drew ?_ | refine Grew.alloc ?_ | refine Grew.setCell ?_ ?_)) <;> simp)); clear hG; intro hG; apply Owns.step hb1; (focus ((repeat (first | exact K | apply Owns.alloc | apply Owns.drew | apply Owns.set)) <;> simp)); clear K; intro K; have KO := K; (try simp [Owns, setIn] at KO)) | (go_at_call 8; refine (meet_any _ _ _ _ _ (by assumption) (by assumption) (by assumption) (by assumption)).mono ?_; rintro e w1 ⟨rfl, hb1⟩; (try clear KO); refine Grew.step (a := w) hb1 ?_ ?_; (focus ((repeat (first | exact hG | refine Grew.drew ?_ | refine Grew.alloc ?_ | refine Grew.setCell ?_ ?_)) <;> simp)); clear hG; intro hG; apply Owns.step hb1; (focus ((repeat (first | exact K | apply Owns.alloc | apply Owns.drew | apply Owns.set)) <;> simp)); clear K; intro K; have KO := K; (try simp [Owns, setIn] at KO)) | (go_at_call 14; refine (is_any _ _ _ (by assumption) (by assumption)).mono ?_; rintro e w1 ⟨rfl, hb1⟩; (try clear KO); refine Grew.step (a := w) hb1 ?_ ?_; (focus ((repeat (first | exact hG | refine Grew.drew ?_ | refine Grew.alloc ?_ | refine Grew.setCell ?_ ?_)) <;> simp)); clear hG; intro hG; apply Owns.step hb1; (focus ((repeat (first | exact K | apply Owns.alloc | apply Owns.drew | apply Owns.set)) <;> simp)); clear K; intro K; have KO := K; (try simp [Owns, setIn] at KO)))
      (go_ret; exact ⟨rfl, by (repeat (first | exact hG | refine Grew.drew ?_ | refine Grew.alloc ?_ | refine Grew.setCell ?_ ?_))⟩)
  · have h1 : isB a b = false := by simp_all
    clear h
    go_enter Try.func5, Try.ntmps5
    go_wp2_with (first | (go_at_call 7; refine (known_any _).mono ?_; rintro e w1 ⟨rfl, hb1⟩; (try clear KO); refine Grew.step (a := w) hb1 ?_ ?_; (focus ((repeat (first | exact hG | refine Grew.drew ?_ | refine Grew.alloc ?_ | refine Grew.setCell ?_ ?_)) <;> simp)); clear hG; intro hG; apply Owns.step hb1; (focus ((repeat (first | exact K | apply Owns.alloc | apply Owns.drew | apply Owns.set)) <;> simp)); clear K; intro K; have KO := K; (try simp [Owns, setIn] at KO)) | (go_at_call 8; refine (meet_any _ _ _ _ _ (by assumption) (by assumption) (by assumption) (by assumption)).mono ?_; rintro e w1 ⟨rfl, hb1⟩; (try clear KO); refine Grew.step (a := w) hb1 ?_ ?_; (focus ((repeat (first | exact hG | refine Grew.drew ?_ | refine Grew.alloc ?_ | refine Grew.setCell ?_ ?_)) <;> simp)); clear hG; intro hG; apply Owns.step hb1; (focus ((repeat (first | exact K | apply Owns.alloc | apply Owns.drew | apply Owns.set)) <;> simp)); clear K; intro K; have KO := K; (try simp [Owns, setIn] at KO)) | (go_at_call 14; refine (is_any _ _ _ (by assumption) (by assumption)).mono ?_; rintro e w1 ⟨rfl, hb1⟩; (try clear KO); refine Grew.step (a := w) hb1 ?_ ?_; (focus ((repeat (first | exact hG | refine Grew.drew ?_ | refine Grew.alloc ?_ | refine Grew.setCell ?_ ?_)) <;> simp)); clear hG; intro hG; apply Owns.step hb1; (focus ((repeat (first | exact K | apply Owns.alloc | apply Owns.drew | apply Owns.set)) <;> simp)); clear K; intro K; have KO := K; (try simp [Owns, setIn] at KO)))
    (go_ret; exact ⟨rfl, by (repeat (first | exact hG | refine Grew.drew ?_ | refine Grew.alloc ?_ | refine Grew.setCell ?_ ?_))⟩)

theorem spanOrders_any (a b c d e f : Bs) (w : World) (ha : a.length ≤ maxLen) (hb : b.length ≤ maxLen) (hc : c.length ≤ maxLen) (hd : d.length ≤ maxLen) (he : e.length ≤ maxLen) (hf : f.length ≤ maxLen) :
    Calls Try.prog 5 #[.agg #[S a, S b], .agg #[S c, S d], .agg #[S e, S f]] w fun e w' => e = .returned (.bool true) ∧ Grew w w' := by
  by_cases h : isB a b = false ∨ isB c d = false ∨ isB e f = false
  · exact spanOrders_out a b c d e f w ha hb hc hd he hf h
  · simp only [not_or, Bool.not_eq_false] at h
    obtain ⟨h1, h2, h3⟩ := h
    by_cases hm : meetB a b c d = true
    · refine spanOrders_in a b c d e f (maxB a c) (lowOf b d) true _ _ _ w ha hb hc hd he hf (maxB_len _ _ _ ha hc) (lowOf_len _ _ _ hb hd) h1 h2 h3 (by simp [meetV, hm]) (by rw [meetV_comm]; simp [meetV, hm]) hm (by rw [meetB_comm]; exact hm) (within_refl _ _ h1)
        (fun _ => meet_within _ _ _ _ hm) (fun _ => ?_) rfl rfl rfl (fun k => ⟨rfl, (within_meet _ _ _ _ k).2⟩) (fun k l => within_trans _ _ _ _ _ _ k l)
      rw [maxB_comm, lowOf_comm]
      exact meet_within c d a b (by rw [meetB_comm]; exact hm)
    · simp only [Bool.not_eq_true] at hm
      exact spanOrders_in a b c d e f [] [] false _ _ _ w ha hb hc hd he hf (by simp) (by simp) h1 h2 h3 (by simp [meetV, hm]) (by rw [meetV_comm]; simp [meetV, hm]) hm (by rw [meetB_comm]; exact hm) (within_refl _ _ h1)
        (fun k => by cases k) (fun k => by cases k) rfl rfl rfl (fun k => by have := (within_meet _ _ _ _ k).1; rw [hm] at this; cases this) (fun k l => within_trans _ _ _ _ _ _ k l)
end Go.Proofs.Ytjjdblfnffcdlaa
