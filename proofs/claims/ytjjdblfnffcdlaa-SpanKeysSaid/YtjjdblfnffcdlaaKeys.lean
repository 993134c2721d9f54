/-
  The plain law of 'SpanKeys' and its walk: of every two spans, a key, a place to cut at, the law answers true. Condition: the texts are no longer than a length can say.
-/
import Derived.Test.YtjjdblfnffcdlaaOrders
namespace Go.Proofs.Ytjjdblfnffcdlaa
open Go.RowKit
set_option linter.unusedSimpArgs false
set_option linter.unusedVariables false

/-- below, and not above the next one, is below it -/
theorem lt_nlt {a b c : Bs} (h : blt a b = true) (k : blt c b = false) : blt a c = true := by
  rcases blt_total a c with g | g | g
  · exact g
  · subst g; rw [h] at k; cases k
  · have := blt_trans g h; rw [k] at this; cases this
theorem nlt_lt {a b c : Bs} (h : blt b a = false) (k : blt b c = true) : blt a c = true := by
  rcases blt_total a c with g | g | g
  · exact g
  · subst g; rw [h] at k; cases k
  · have := blt_trans k g; rw [h] at this; cases this
theorem lt_max (k a c : Bs) : blt k (maxB a c) = (blt k a || blt k c) := by
  unfold maxB
  cases h : blt a c with
  | true =>
    cases h1 : blt k a with
    | true => simp [blt_trans h1 h]
    | false => simp
  | false =>
    cases h1 : blt k c with
    | true => simp [lt_nlt h1 h]
    | false => simp
theorem lt_min (k b d : Bs) : blt k (minB b d) = (blt k b && blt k d) := by
  unfold minB
  cases h : blt d b with
  | true =>
    cases h1 : blt k d with
    | true => simp [blt_trans h1 h, h1]
    | false => simp [h1]
  | false =>
    cases h1 : blt k b with
    | true =>
      have : blt k d = true := by
        rcases blt_total b d with g | g | g
        · exact blt_trans h1 g
        · subst g; exact h1
        · rw [h] at g; cases g
      simp [this, h1]
    | false => simp [h1]
theorem lt_low (k b d : Bs) : ((lowOf b d).isEmpty || blt k (lowOf b d)) = ((b.isEmpty || blt k b) && (d.isEmpty || blt k d)) := by
  unfold lowOf
  cases b with
  | nil => simp
  | cons x b =>
    cases d with
    | nil => simp
    | cons y d =>
      have e : (minB (x :: b) (y :: d)).isEmpty = false := by unfold minB; split <;> rfl
      simp [e, lt_min]
theorem has_meet (a b c d k : Bs) (h : meetB a b c d = true) : hasB (maxB a c) (lowOf b d) k = (hasB a b k && hasB c d k) := by
  have h0 := h
  unfold meetB at h
  simp only [Bool.and_eq_true] at h
  obtain ⟨⟨h1, h2⟩, h3⟩ := h
  have hi := (isB_meet a b c d h1 h2).trans h3
  unfold hasB
  rw [hi, h1, h2, lt_max, lt_low]
  cases isKeyB k <;> cases blt k a <;> cases blt k c <;> cases (b.isEmpty || blt k b) <;> cases (d.isEmpty || blt k d) <;> rfl
theorem meet_of_has (a b c d k : Bs) (h1 : isB a b = true) (h2 : isB c d = true) (h3 : hasB a b k = true) (h4 : hasB c d k = true) : meetB a b c d = true := by
  unfold hasB at h3 h4
  simp only [Bool.and_eq_true, Bool.not_eq_true'] at h3 h4
  obtain ⟨⟨⟨_, _⟩, h5⟩, h6⟩ := h3
  obtain ⟨⟨⟨_, _⟩, h7⟩, h8⟩ := h4
  have e1 : blt k (maxB a c) = false := by rw [lt_max, h5, h7]; rfl
  have e2 : ((lowOf b d).isEmpty || blt k (lowOf b d)) = true := by rw [lt_low, h6, h8]; rfl
  unfold meetB
  rw [h1, h2]
  simp only [Bool.or_eq_true] at e2
  rcases e2 with e2 | e2
  · simp [e2]
  · simp [nlt_lt e1 e2]
theorem cut_facts (a b t k : Bs) (h : cutB a b t = true) : touchB a t t b = true ∧ withinB a t a b = true ∧ withinB t b a b = true ∧ hasB a b k = (hasB a t k || hasB t b k) ∧ (hasB a t k && hasB t b k) = false := by
  unfold cutB hasB at h
  simp only [Bool.and_eq_true, Bool.not_eq_true'] at h
  obtain ⟨⟨⟨⟨h1, h2⟩, h3⟩, h4⟩, h5⟩ := h
  have g1 := h1
  have g2 := h2
  unfold isB at g1
  unfold isKeyB at g2
  simp only [Bool.and_eq_true, Bool.not_eq_true', decide_eq_true_eq] at g1 g2
  have e1 : isB a t = true := by unfold isB; simp [g1.1.1, g2.2, h5]
  have e2 : isB t b = true := by
    unfold isB; simp only [Bool.and_eq_true, decide_eq_true_eq]; exact ⟨⟨g2.2, g1.1.2⟩, h4⟩
  have e3 : (b.isEmpty || blt t b) = true := h4
  refine ⟨?_, ?_, ?_, ?_, ?_⟩
  · unfold touchB; simp [e1, e2, g2.1]
  · unfold withinB
    simp only [e1, h1, blt_irrefl, g2.1, Bool.not_false, Bool.true_and]
    cases hb : b.isEmpty with
    | true => rfl
    | false => rw [hb] at e3; simp at e3; simp [blt_asymm' e3]
  · unfold withinB
    simp only [e2, h1, h3, blt_irrefl, Bool.not_false, Bool.true_and, Bool.and_true]
    cases b.isEmpty <;> rfl
  · unfold hasB
    rw [e1, e2, h1]
    have g3 : t.isEmpty = false := g2.1
    rw [g3]
    cases hk : blt k t with
    | true =>
      have : (b.isEmpty || blt k b) = true := by
        simp only [Bool.or_eq_true] at e3 ⊢
        rcases e3 with e3 | e3
        · exact .inl e3
        · exact .inr (blt_trans hk e3)
      rw [this]; cases isKeyB k <;> cases blt k a <;> rfl
    | false =>
      have : blt k a = false := by
        cases e : blt k a with
        | false => rfl
        | true => have := blt_trans e h5; rw [hk] at this; cases this
      rw [this]; cases isKeyB k <;> cases (b.isEmpty || blt k b) <;> rfl
  · unfold hasB
    have g3 : t.isEmpty = false := g2.1
    rw [g3]
    cases hk : blt k t with
    | true => cases isB a t <;> cases isKeyB k <;> cases blt k a <;> cases isB t b <;> rfl
    | false => cases isB a t <;> cases isKeyB k <;> cases blt k a <;> rfl

set_option maxRecDepth 100000 in
set_option maxHeartbeats 2000000 in
theorem spanKeys_out0 (a b c d k t : Bs) (w : World) (ha : a.length ≤ maxLen) (hb : b.length ≤ maxLen) (hc : c.length ≤ maxLen) (hd : d.length ≤ maxLen) (hk : k.length ≤ maxLen) (ht : t.length ≤ maxLen) (g1 : isB a b = false) :
    Calls Try.prog 4 #[.agg #[S a, S b], .agg #[S c, S d], S k, S t] w fun e w' => e = .returned (.bool true) ∧ Grew w w' := by
  have hk' := hk
  have ht' := ht
  unfold maxLen at hk' ht'
  have hG := Grew.refl w
  have K := Owns.nil w
  go_enter Try.func4, Try.ntmps4
  go_wp2_with (first | (go_at_call 7; refine (known_any _).mono ?_; rintro e w1 ⟨rfl, hb1⟩; (try clear KO); refine Grew.step (a := w) hb1 ?_ ?_; (focus ((repeat (first | exact hG | refine Grew.drew ?_ | refine Grew.alloc ?_ | refine Grew.setCell ?_ ?_)) <;> simp)); clear hG; intro hG; apply Owns.step hb1; (focus ((repeat (first | exact K | apply Owns.alloc | apply Owns.drew | apply Owns.set)) <;> simp)); clear K; intro K; have KO := K; (try simp [Owns, setIn] at KO)) | (go_at_call 8; refine (meet_any _ _ _ _ _ (by assumption) (by assumption) (by assumption) (by assumption)).mono ?_; rintro e w1 ⟨rfl, hb1⟩; (try clear KO); refine Grew.step (a := w) hb1 ?_ ?_; (focus ((repeat (first | exact hG | refine Grew.drew ?_ | refine Grew.alloc ?_ | refine Grew.setCell ?_ ?_)) <;> simp)); clear hG; intro hG; apply Owns.step hb1; (focus ((repeat (first | exact K | apply Owns.alloc | apply Owns.drew | apply Owns.set)) <;> simp)); clear K; intro K; have KO := K; (try simp [Owns, setIn] at KO)) | (go_at_call 14; refine (is_any _ _ _ (by assumption) (by assumption)).mono ?_; rintro e w1 ⟨rfl, hb1⟩; (try clear KO); refine Grew.step (a := w) hb1 ?_ ?_; (focus ((repeat (first | exact hG | refine Grew.drew ?_ | refine Grew.alloc ?_ | refine Grew.setCell ?_ ?_)) <;> simp)); clear hG; intro hG; apply Owns.step hb1; (focus ((repeat (first | exact K | apply Owns.alloc | apply Owns.drew | apply Owns.set)) <;> simp)); clear K; intro K; have KO := K; (try simp [Owns, setIn] at KO)) | (go_at_call 18; refine (within_any _ _ _ _ _ (by assumption) (by assumption) (by assumption) (by assumption)).mono ?_; rintro e w1 ⟨rfl, hb1⟩; (try clear KO); refine Grew.step (a := w) hb1 ?_ ?_; (focus ((repeat (first | exact hG | refine Grew.drew ?_ | refine Grew.alloc ?_ | refine Grew.setCell ?_ ?_)) <;> simp)); clear hG; intro hG; apply Owns.step hb1; (focus ((repeat (first | exact K | apply Owns.alloc | apply Owns.drew | apply Owns.set)) <;> simp)); clear K; intro K; have KO := K; (try simp [Owns, setIn] at KO)) | (go_at_call 16; refine (has_any _ _ _ _ (by assumption) (by assumption) (by assumption)).mono ?_; rintro e w1 ⟨rfl, hb1⟩; (try clear KO); refine Grew.step (a := w) hb1 ?_ ?_; (focus ((repeat (first | exact hG | refine Grew.drew ?_ | refine Grew.alloc ?_ | refine Grew.setCell ?_ ?_)) <;> simp)); clear hG; intro hG; apply Owns.step hb1; (focus ((repeat (first | exact K | apply Owns.alloc | apply Owns.drew | apply Owns.set)) <;> simp)); clear K; intro K; have KO := K; (try simp [Owns, setIn] at KO)) | (go_at_call 10; refine (cut_any _ _ _ _ (by assumption) (by assumption) (by assumption)).mono ?_; rintro e w1 ⟨rfl, hb1⟩; (try clear KO); refine Grew.step (a := w) hb1 ?_ ?_; (focus ((repeat (first | exact hG | refine Grew.drew ?_ | refine Grew.alloc ?_ | refine Grew.setCell ?_ ?_)) <;> simp)); clear hG; intro hG; apply Owns.step hb1; (focus ((repeat (first | exact K | apply Owns.alloc | apply Owns.drew | apply Owns.set)) <;> simp)); clear K; intro K; have KO := K; (try simp [Owns, setIn] at KO)) | (go_at_call 20; refine (touch_any _ _ _ _ _ (by assumption) (by assumption) (by assumption) (by assumption)).mono ?_; rintro e w1 ⟨rfl, hb1⟩; (try clear KO); refine Grew.step (a := w) hb1 ?_ ?_; (focus ((repeat (first | exact hG | refine Grew.drew ?_ | refine Grew.alloc ?_ | refine Grew.setCell ?_ ?_)) <;> simp)); clear hG; intro hG; apply Owns.step hb1; (focus ((repeat (first | exact K | apply Owns.alloc | apply Owns.drew | apply Owns.set)) <;> simp)); clear K; intro K; have KO := K; (try simp [Owns, setIn] at KO)))
  (go_ret; exact ⟨rfl, by (repeat (first | exact hG | refine Grew.drew ?_ | refine Grew.alloc ?_ | refine Grew.setCell ?_ ?_))⟩)

set_option maxRecDepth 100000 in
set_option maxHeartbeats 2000000 in
theorem spanKeys_out1 (a b c d k t : Bs) (w : World) (ha : a.length ≤ maxLen) (hb : b.length ≤ maxLen) (hc : c.length ≤ maxLen) (hd : d.length ≤ maxLen) (hk : k.length ≤ maxLen) (ht : t.length ≤ maxLen) (g1 : isB a b = true) (g2 : isB c d = false) :
    Calls Try.prog 4 #[.agg #[S a, S b], .agg #[S c, S d], S k, S t] w fun e w' => e = .returned (.bool true) ∧ Grew w w' := by
  have hk' := hk
  have ht' := ht
  unfold maxLen at hk' ht'
  have hG := Grew.refl w
  have K := Owns.nil w
  go_enter Try.func4, Try.ntmps4
  go_wp2_with (first | (go_at_call 7; refine (known_any _).mono ?_; rintro e w1 ⟨rfl, hb1⟩; (try clear KO); refine Grew.step (a := w) hb1 ?_ ?_; (focus ((repeat (first | exact hG | refine Grew.drew ?_ | refine Grew.alloc ?_ | refine Grew.setCell ?_ ?_)) <;> simp)); clear hG; intro hG; apply Owns.step hb1; (focus ((repeat (first | exact K | apply Owns.alloc | apply Owns.drew | apply Owns.set)) <;> simp)); clear K; intro K; have KO := K; (try simp [Owns, setIn] at KO)) | (go_at_call 8; refine (meet_any _ _ _ _ _ (by assumption) (by assumption) (by assumption) (by assumption)).mono ?_; rintro e w1 ⟨rfl, hb1⟩; (try clear KO); refine Grew.step (a := w) hb1 ?_ ?_; (focus ((repeat (first | exact hG | refine Grew.drew ?_ | refine Grew.alloc ?_ | refine Grew.setCell ?_ ?_)) <;> simp)); clear hG; intro hG; apply Owns.step hb1; (focus ((repeat (first | exact K | apply Owns.alloc | apply Owns.drew | apply Owns.set)) <;> simp)); clear K; intro K; have KO := K; (try simp [Owns, setIn] at KO)) | (go_at_call 14; refine (is_any _ _ _ (by assumption) (by assumption)).mono ?_; rintro e w1 ⟨rfl, hb1⟩; (try clear KO); refine Grew.step (a := w) hb1 ?_ ?_; (focus ((repeat (first | exact hG | refine Grew.drew ?_ | refine Grew.alloc ?_ | refine Grew.setCell ?_ ?_)) <;> simp)); clear hG; intro hG; apply Owns.step hb1; (focus ((repeat (first | exact K | apply Owns.alloc | apply Owns.drew | apply Owns.set)) <;> simp)); clear K; intro K; have KO := K; (try simp [Owns, setIn] at KO)) | (go_at_call 18; refine (within_any _ _ _ _ _ (by assumption) (by assumption) (by assumption) (by assumption)).mono ?_; rintro e w1 ⟨rfl, hb1⟩; (try clear KO); refine Grew.step (a := w) hb1 ?_ ?_; (focus ((repeat (first | exact hG | refine Grew.drew ?_ | refine Grew.alloc ?_ | refine Grew.setCell ?_ ?_)) <;> simp)); clear hG; intro hG; apply Owns.step hb1; (focus ((repeat (first | exact K | apply Owns.alloc | apply Owns.drew | apply Owns.set)) <;> simp)); clear K; intro K; have KO := K; (try simp [Owns, setIn] at KO)) | (go_at_call 16; refine (has_any _ _ _ _ (by assumption) (by assumption) (by assumption)).mono ?_; rintro e w1 ⟨rfl, hb1⟩; (try clear KO); refine Grew.step (a := w) hb1 ?_ ?_; (focus ((repeat (first | exact hG | refine Grew.drew ?_ | refine Grew.alloc ?_ | refine Grew.setCell ?_ ?_)) <;> simp)); clear hG; intro hG; apply Owns.step hb1; (focus ((repeat (first | exact K | apply Owns.alloc | apply Owns.drew | apply Owns.set)) <;> simp)); clear K; intro K; have KO := K; (try simp [Owns, setIn] at KO)) | (go_at_call 10; refine (cut_any _ _ _ _ (by assumption) (by assumption) (by assumption)).mono ?_; rintro e w1 ⟨rfl, hb1⟩; (try clear KO); refine Grew.step (a := w) hb1 ?_ ?_; (focus ((repeat (first | exact hG | refine Grew.drew ?_ | refine Grew.alloc ?_ | refine Grew.setCell ?_ ?_)) <;> simp)); clear hG; intro hG; apply Owns.step hb1; (focus ((repeat (first | exact K | apply Owns.alloc | apply Owns.drew | apply Owns.set)) <;> simp)); clear K; intro K; have KO := K; (try simp [Owns, setIn] at KO)) | (go_at_call 20; refine (touch_any _ _ _ _ _ (by assumption) (by assumption) (by assumption) (by assumption)).mono ?_; rintro e w1 ⟨rfl, hb1⟩; (try clear KO); refine Grew.step (a := w) hb1 ?_ ?_; (focus ((repeat (first | exact hG | refine Grew.drew ?_ | refine Grew.alloc ?_ | refine Grew.setCell ?_ ?_)) <;> simp)); clear hG; intro hG; apply Owns.step hb1; (focus ((repeat (first | exact K | apply Owns.alloc | apply Owns.drew | apply Owns.set)) <;> simp)); clear K; intro K; have KO := K; (try simp [Owns, setIn] at KO)))
  (go_ret; exact ⟨rfl, by (repeat (first | exact hG | refine Grew.drew ?_ | refine Grew.alloc ?_ | refine Grew.setCell ?_ ?_))⟩)

set_option maxRecDepth 100000 in
set_option maxHeartbeats 2000000 in
theorem spanKeys_out2 (a b c d k t : Bs) (w : World) (ha : a.length ≤ maxLen) (hb : b.length ≤ maxLen) (hc : c.length ≤ maxLen) (hd : d.length ≤ maxLen) (hk : k.length ≤ maxLen) (ht : t.length ≤ maxLen) (g1 : isB a b = true) (g2 : isB c d = true) (g3 : 20 < k.length) :
    Calls Try.prog 4 #[.agg #[S a, S b], .agg #[S c, S d], S k, S t] w fun e w' => e = .returned (.bool true) ∧ Grew w w' := by
  have hk' := hk
  have ht' := ht
  unfold maxLen at hk' ht'
  have hG := Grew.refl w
  have K := Owns.nil w
  go_enter Try.func4, Try.ntmps4
  go_wp2_with (first | (go_at_call 7; refine (known_any _).mono ?_; rintro e w1 ⟨rfl, hb1⟩; (try clear KO); refine Grew.step (a := w) hb1 ?_ ?_; (focus ((repeat (first | exact hG | refine Grew.drew ?_ | refine Grew.alloc ?_ | refine Grew.setCell ?_ ?_)) <;> simp)); clear hG; intro hG; apply Owns.step hb1; (focus ((repeat (first | exact K | apply Owns.alloc | apply Owns.drew | apply Owns.set)) <;> simp)); clear K; intro K; have KO := K; (try simp [Owns, setIn] at KO)) | (go_at_call 8; refine (meet_any _ _ _ _ _ (by assumption) (by assumption) (by assumption) (by assumption)).mono ?_; rintro e w1 ⟨rfl, hb1⟩; (try clear KO); refine Grew.step (a := w) hb1 ?_ ?_; (focus ((repeat (first | exact hG | refine Grew.drew ?_ | refine Grew.alloc ?_ | refine Grew.setCell ?_ ?_)) <;> simp)); clear hG; intro hG; apply Owns.step hb1; (focus ((repeat (first | exact K | apply Owns.alloc | apply Owns.drew | apply Owns.set)) <;> simp)); clear K; intro K; have KO := K; (try simp [Owns, setIn] at KO)) | (go_at_call 14; refine (is_any _ _ _ (by assumption) (by assumption)).mono ?_; rintro e w1 ⟨rfl, hb1⟩; (try clear KO); refine Grew.step (a := w) hb1 ?_ ?_; (focus ((repeat (first | exact hG | refine Grew.drew ?_ | refine Grew.alloc ?_ | refine Grew.setCell ?_ ?_)) <;> simp)); clear hG; intro hG; apply Owns.step hb1; (focus ((repeat (first | exact K | apply Owns.alloc | apply Owns.drew | apply Owns.set)) <;> simp)); clear K; intro K; have KO := K; (try simp [Owns, setIn] at KO)) | (go_at_call 18; refine (within_any _ _ _ _ _ (by assumption) (by assumption) (by assumption) (by assumption)).mono ?_; rintro e w1 ⟨rfl, hb1⟩; (try clear KO); refine Grew.step (a := w) hb1 ?_ ?_; (focus ((repeat (first | exact hG | refine Grew.drew ?_ | refine Grew.alloc ?_ | refine Grew.setCell ?_ ?_)) <;> simp)); clear hG; intro hG; apply Owns.step hb1; (focus ((repeat (first | exact K | apply Owns.alloc | apply Owns.drew | apply Owns.set)) <;> simp)); clear K; intro K; have KO := K; (try simp [Owns, setIn] at KO)) | (go_at_call 16; refine (has_any _ _ _ _ (by assumption) (by assumption) (by assumption)).mono ?_; rintro e w1 ⟨rfl, hb1⟩; (try clear KO); refine Grew.step (a := w) hb1 ?_ ?_; (focus ((repeat (first | exact hG | refine Grew.drew ?_ | refine Grew.alloc ?_ | refine Grew.setCell ?_ ?_)) <;> simp)); clear hG; intro hG; apply Owns.step hb1; (focus ((repeat (first | exact K | apply Owns.alloc | apply Owns.drew | apply Owns.set)) <;> simp)); clear K; intro K; have KO := K; (try simp [Owns, setIn] at KO)) | (go_at_call 10; refine (cut_any _ _ _ _ (by assumption) (by assumption) (by assumption)).mono ?_; rintro e w1 ⟨rfl, hb1⟩; (try clear KO); refine Grew.step (a := w) hb1 ?_ ?_; (focus ((repeat (first | exact hG | refine Grew.drew ?_ | refine Grew.alloc ?_ | refine Grew.setCell ?_ ?_)) <;> simp)); clear hG; intro hG; apply Owns.step hb1; (focus ((repeat (first | exact K | apply Owns.alloc | apply Owns.drew | apply Owns.set)) <;> simp)); clear K; intro K; have KO := K; (try simp [Owns, setIn] at KO)) | (go_at_call 20; refine (touch_any _ _ _ _ _ (by assumption) (by assumption) (by assumption) (by assumption)).mono ?_; rintro e w1 ⟨rfl, hb1⟩; (try clear KO); refine Grew.step (a := w) hb1 ?_ ?_; (focus ((repeat (first | exact hG | refine Grew.drew ?_ | refine Grew.alloc ?_ | refine Grew.setCell ?_ ?_)) <;> simp)); clear hG; intro hG; apply Owns.step hb1; (focus ((repeat (first | exact K | apply Owns.alloc | apply Owns.drew | apply Owns.set)) <;> simp)); clear K; intro K; have KO := K; (try simp [Owns, setIn] at KO)))
  (go_ret; exact ⟨rfl, by (repeat (first | exact hG | refine Grew.drew ?_ | refine Grew.alloc ?_ | refine Grew.setCell ?_ ?_))⟩)

set_option maxRecDepth 100000 in
set_option maxHeartbeats 2000000 in
theorem spanKeys_out3 (a b c d k t : Bs) (w : World) (ha : a.length ≤ maxLen) (hb : b.length ≤ maxLen) (hc : c.length ≤ maxLen) (hd : d.length ≤ maxLen) (hk : k.length ≤ maxLen) (ht : t.length ≤ maxLen) (g1 : isB a b = true) (g2 : isB c d = true) (g3 : k.length ≤ 20) (g4 : 20 < t.length) :
    Calls Try.prog 4 #[.agg #[S a, S b], .agg #[S c, S d], S k, S t] w fun e w' => e = .returned (.bool true) ∧ Grew w w' := by
  have hk' := hk
  have ht' := ht
  unfold maxLen at hk' ht'
  have hG := Grew.refl w
  have K := Owns.nil w
  go_enter Try.func4, Try.ntmps4
  go_wp2_with (first | (go_at_call 7; refine (known_any _).mono ?_; rintro e w1 ⟨rfl, hb1⟩; (try clear KO); refine Grew.step (a := w) hb1 ?_ ?_; (focus ((repeat (first | exact hG | refine Grew.drew ?_ | refine Grew.alloc ?_ | refine Grew.setCell ?_ ?_)) <;> simp)); clear hG; intro hG; apply Owns.step hb1; (focus ((repeat (first | exact K | apply Owns.alloc | apply Owns.drew | apply Owns.set)) <;> simp)); clear K; intro K; have KO := K; (try simp [Owns, setIn] at KO)) | (go_at_call 8; refine (meet_any _ _ _ _ _ (by assumption) (by assumption) (by assumption) (by assumption)).mono ?_; rintro e w1 ⟨rfl, hb1⟩; (try clear KO); refine Grew.step (a := w) hb1 ?_ ?_; (focus ((repeat (first | exact hG | refine Grew.drew ?_ | refine Grew.alloc ?_ | refine Grew.setCell ?_ ?_)) <;> simp)); clear hG; intro hG; apply Owns.step hb1; (focus ((repeat (first | exact K | apply Owns.alloc | apply Owns.drew | apply Owns.set)) <;> simp)); clear K; intro K; have KO := K; (try simp [Owns, setIn] at KO)) | (go_at_call 14; refine (is_any _ _ _ (by assumption) (by assumption)).mono ?_; rintro e w1 ⟨rfl, hb1⟩; (try clear KO); refine Grew.step (a := w) hb1 ?_ ?_; (focus ((repeat (first | exact hG | refine Grew.drew ?_ | refine Grew.alloc ?_ | refine Grew.setCell ?_ ?_)) <;> simp)); clear hG; intro hG; apply Owns.step hb1; (focus ((repeat (first | exact K | apply Owns.alloc | apply Owns.drew | apply Owns.set)) <;> simp)); clear K; intro K; have KO := K; (try simp [Owns, setIn] at KO)) | (go_at_call 18; refine (within_any _ _ _ _ _ (by assumption) (by assumption) (by assumption) (by assumption)).mono ?_; rintro e w1 ⟨rfl, hb1⟩; (try clear KO); refine Grew.step (a := w) hb1 ?_ ?_; (focus ((repeat (first | exact hG | refine Grew.drew ?_ | refine Grew.alloc ?_ | refine Grew.setCell ?_ ?_)) <;> simp)); clear hG; intro hG; apply Owns.step hb1; (focus ((repeat (first | exact K | apply Owns.alloc | apply Owns.drew | apply Owns.set)) <;> simp)); clear K; intro K; have KO := K; (try simp [Owns, setIn] at KO)) | (go_at_call 16; refine (has_any _ _ _ _ (by assumption) (by assumption) (by assumption)).mono ?_; rintro e w1 ⟨rfl, hb1⟩; (try clear KO); refine Grew.step (a := w) hb1 ?_ ?_; (focus ((repeat (first | exact hG | refine Grew.drew ?_ | refine Grew.alloc ?_ | refine Grew.setCell ?_ ?_)) <;> simp)); clear hG; intro hG; apply Owns.step hb1; (focus ((repeat (first | exact K | apply Owns.alloc | apply Owns.drew | apply Owns.set)) <;> simp)); clear K; intro K; have KO := K; (try simp [Owns, setIn] at KO)) | (go_at_call 10; refine (cut_any _ _ _ _ (by assumption) (by assumption) (by assumption)).mono ?_; rintro e w1 ⟨rfl, hb1⟩; (try clear KO); refine Grew.step (a := w) hb1 ?_ ?_; (focus ((repeat (first | exact hG | refine Grew.drew ?_ | refine Grew.alloc ?_ | refine Grew.setCell ?_ ?_)) <;> simp)); clear hG; intro hG; apply Owns.step hb1; (focus ((repeat (first | exact K | apply Owns.alloc | apply Owns.drew | apply Owns.set)) <;> simp)); clear K; intro K; have KO := K; (try simp [Owns, setIn] at KO)) | (go_at_call 20; refine (touch_any _ _ _ _ _ (by assumption) (by assumption) (by assumption) (by assumption)).mono ?_; rintro e w1 ⟨rfl, hb1⟩; (try clear KO); refine Grew.step (a := w) hb1 ?_ ?_; (focus ((repeat (first | exact hG | refine Grew.drew ?_ | refine Grew.alloc ?_ | refine Grew.setCell ?_ ?_)) <;> simp)); clear hG; intro hG; apply Owns.step hb1; (focus ((repeat (first | exact K | apply Owns.alloc | apply Owns.drew | apply Owns.set)) <;> simp)); clear K; intro K; have KO := K; (try simp [Owns, setIn] at KO)))
  (go_ret; exact ⟨rfl, by (repeat (first | exact hG | refine Grew.drew ?_ | refine Grew.alloc ?_ | refine Grew.setCell ?_ ?_))⟩)

set_option maxRecDepth 100000 in
set_option maxHeartbeats 4000000 in
theorem spanKeys_cutno (a b c d k t x y : Bs) (m p q q2 : Bool) (w : World) (ha : a.length ≤ maxLen) (hb : b.length ≤ maxLen) (hc : c.length ≤ maxLen) (hd : d.length ≤ maxLen) (hk : k.length ≤ maxLen) (ht : t.length ≤ maxLen) (g1 : isB a b = true) (g2 : isB c d = true) (g3 : k.length ≤ 20) (g4 : t.length ≤ 20) (hx : x.length ≤ maxLen) (hy : y.length ≤ maxLen)
    (v1 : meetV a b c d = .agg #[S x, S y]) (v2 : cutV a b t = .tuple #[.agg #[S [], S []], .agg #[S [], S []], .bool false]) (m1 : meetB a b c d = m) (r1 : hasB a b k = p) (rq : hasB x y k = q) (rq2 : hasB c d k = q2)
    (ok : (p = true ∧ m = true ∧ q = q2) ∨ (p = true ∧ m = false ∧ q2 = false) ∨ (p = false ∧ m = true ∧ q = false) ∨ (p = false ∧ m = false)) :
    Calls Try.prog 4 #[.agg #[S a, S b], .agg #[S c, S d], S k, S t] w fun e w' => e = .returned (.bool true) ∧ Grew w w' := by
  have hk' := hk
  have ht' := ht
  unfold maxLen at hk' ht'
  rcases ok with ⟨rfl, rfl, rfl⟩ | ⟨rfl, rfl, rfl⟩ | ⟨rfl, rfl, rfl⟩ | ⟨rfl, rfl⟩
  all_goals try (cases q)
  all_goals
    have hG := Grew.refl w
    have K := Owns.nil w
    go_enter Try.func4, Try.ntmps4
    go_wp2_with (first | (go_at_call 7; refine (known_any _).mono ?_; rintro e w1 ⟨rfl, hb1⟩; (try clear KO); refine Grew.step (a := w) hb1 ?_ ?_; (focus ((repeat (first | exact hG | refine Grew.drew ?_ | refine Grew.alloc ?_ | refine Grew.setCell ?_ ?_)) <;> simp)); clear hG; intro hG; apply Owns.step hb1; (focus ((repeat (first | exact K | apply Owns.alloc | apply Owns.drew | apply Owns.set)) <;> simp)); clear K; intro K; have KO := K; (try simp [Owns, setIn] at KO)) | (go_at_call 8; refine (meet_any _ _ _ _ _ (by assumption) (by assumption) (by assumption) (by assumption)).mono ?_; rintro e w1 ⟨rfl, hb1⟩; (try clear KO); refine Grew.step (a := w) hb1 ?_ ?_; (focus ((repeat (first | exact hG | refine Grew.drew ?_ | refine Grew.alloc ?_ | refine Grew.setCell ?_ ?_)) <;> simp)); clear hG; intro hG; apply Owns.step hb1; (focus ((repeat (first | exact K | apply Owns.alloc | apply Owns.drew | apply Owns.set)) <;> simp)); clear K; intro K; have KO := K; (try simp [Owns, setIn] at KO)) | (go_at_call 14; refine (is_any _ _ _ (by assumption) (by assumption)).mono ?_; rintro e w1 ⟨rfl, hb1⟩; (try clear KO); refine Grew.step (a := w) hb1 ?_ ?_; (focus ((repeat (first | exact hG | refine Grew.drew ?_ | refine Grew.alloc ?_ | refine Grew.setCell ?_ ?_)) <;> simp)); clear hG; intro hG; apply Owns.step hb1; (focus ((repeat (first | exact K | apply Owns.alloc | apply Owns.drew | apply Owns.set)) <;> simp)); clear K; intro K; have KO := K; (try simp [Owns, setIn] at KO)) | (go_at_call 18; refine (within_any _ _ _ _ _ (by assumption) (by assumption) (by assumption) (by assumption)).mono ?_; rintro e w1 ⟨rfl, hb1⟩; (try clear KO); refine Grew.step (a := w) hb1 ?_ ?_; (focus ((repeat (first | exact hG | refine Grew.drew ?_ | refine Grew.alloc ?_ | refine Grew.setCell ?_ ?_)) <;> simp)); clear hG; intro hG; apply Owns.step hb1; (focus ((repeat (first | exact K | apply Owns.alloc | apply Owns.drew | apply Owns.set)) <;> simp)); clear K; intro K; have KO := K; (try simp [Owns, setIn] at KO)) | (go_at_call 16; refine (has_any _ _ _ _ (by assumption) (by assumption) (by assumption)).mono ?_; rintro e w1 ⟨rfl, hb1⟩; (try clear KO); refine Grew.step (a := w) hb1 ?_ ?_; (focus ((repeat (first | exact hG | refine Grew.drew ?_ | refine Grew.alloc ?_ | refine Grew.setCell ?_ ?_)) <;> simp)); clear hG; intro hG; apply Owns.step hb1; (focus ((repeat (first | exact K | apply Owns.alloc | apply Owns.drew | apply Owns.set)) <;> simp)); clear K; intro K; have KO := K; (try simp [Owns, setIn] at KO)) | (go_at_call 10; refine (cut_any _ _ _ _ (by assumption) (by assumption) (by assumption)).mono ?_; rintro e w1 ⟨rfl, hb1⟩; (try clear KO); refine Grew.step (a := w) hb1 ?_ ?_; (focus ((repeat (first | exact hG | refine Grew.drew ?_ | refine Grew.alloc ?_ | refine Grew.setCell ?_ ?_)) <;> simp)); clear hG; intro hG; apply Owns.step hb1; (focus ((repeat (first | exact K | apply Owns.alloc | apply Owns.drew | apply Owns.set)) <;> simp)); clear K; intro K; have KO := K; (try simp [Owns, setIn] at KO)) | (go_at_call 20; refine (touch_any _ _ _ _ _ (by assumption) (by assumption) (by assumption) (by assumption)).mono ?_; rintro e w1 ⟨rfl, hb1⟩; (try clear KO); refine Grew.step (a := w) hb1 ?_ ?_; (focus ((repeat (first | exact hG | refine Grew.drew ?_ | refine Grew.alloc ?_ | refine Grew.setCell ?_ ?_)) <;> simp)); clear hG; intro hG; apply Owns.step hb1; (focus ((repeat (first | exact K | apply Owns.alloc | apply Owns.drew | apply Owns.set)) <;> simp)); clear K; intro K; have KO := K; (try simp [Owns, setIn] at KO)))
    (go_ret; exact ⟨rfl, by (repeat (first | exact hG | refine Grew.drew ?_ | refine Grew.alloc ?_ | refine Grew.setCell ?_ ?_))⟩)

set_option maxRecDepth 100000 in
set_option maxHeartbeats 8000000 in
theorem spanKeys_cut (a b c d k t x y : Bs) (m p q q2 p1 p2 : Bool) (w : World) (ha : a.length ≤ maxLen) (hb : b.length ≤ maxLen) (hc : c.length ≤ maxLen) (hd : d.length ≤ maxLen) (hk : k.length ≤ maxLen) (ht : t.length ≤ maxLen) (g1 : isB a b = true) (g2 : isB c d = true) (g3 : k.length ≤ 20) (g4 : t.length ≤ 20) (hx : x.length ≤ maxLen) (hy : y.length ≤ maxLen)
    (v1 : meetV a b c d = .agg #[S x, S y]) (v2 : cutV a b t = .tuple #[.agg #[S a, S t], .agg #[S t, S b], .bool true]) (m1 : meetB a b c d = m) (r1 : hasB a b k = p) (rq : hasB x y k = q) (rq2 : hasB c d k = q2)
    (z1 : touchB a t t b = true) (z2 : withinB a t a b = true) (z3 : withinB t b a b = true) (s1 : hasB a t k = p1) (s2 : hasB t b k = p2)
    (ok : (p = true ∧ m = true ∧ q = q2) ∨ (p = true ∧ m = false ∧ q2 = false) ∨ (p = false ∧ m = true ∧ q = false) ∨ (p = false ∧ m = false))
    (ok2 : (p = true ∧ p1 = true ∧ p2 = false) ∨ (p = true ∧ p1 = false ∧ p2 = true) ∨ (p = false ∧ p1 = false ∧ p2 = false)) :
    Calls Try.prog 4 #[.agg #[S a, S b], .agg #[S c, S d], S k, S t] w fun e w' => e = .returned (.bool true) ∧ Grew w w' := by
  have hk' := hk
  have ht' := ht
  unfold maxLen at hk' ht'
  rcases ok with ⟨rfl, rfl, rfl⟩ | ⟨rfl, rfl, rfl⟩ | ⟨rfl, rfl, rfl⟩ | ⟨rfl, rfl⟩
  all_goals (rcases ok2 with ⟨k1, rfl, rfl⟩ | ⟨k1, rfl, rfl⟩ | ⟨k1, rfl, rfl⟩)
  all_goals try (cases k1; done)
  all_goals clear k1
  all_goals try (cases q)
  all_goals
    have hG := Grew.refl w
    have K := Owns.nil w
    go_enter Try.func4, Try.ntmps4
    go_wp2_with (first | (go_at_call 7; refine (known_any _).mono ?_; rintro e w1 ⟨rfl, hb1⟩; (try clear KO); refine Grew.step (a := w) hb1 ?_ ?_; (focus ((repeat (first | exact hG | refine Grew.drew ?_ | refine Grew.alloc ?_ | refine Grew.setCell ?_ ?_)) <;> simp)); clear hG; intro hG; apply Owns.step hb1; (focus ((repeat (first | exact K | apply Owns.alloc | apply Owns.drew | apply Owns.set)) <;> simp)); clear K; intro K; have KO := K; (try simp [Owns, setIn] at KO)) | (go_at_call 8; refine (meet_any _ _ _ _ _ (by assumption) (by assumption) (by assumption) (by assumption)).mono ?_; rintro e w1 ⟨rfl, hb1⟩; (try clear KO); refine Grew.step (a := w) hb1 ?_ ?_; (focus ((repeat (first | exact hG | refine Grew.drew ?_ | refine Grew.alloc ?_ | refine Grew.setCell ?_ ?_)) <;> simp)); clear hG; intro hG; apply Owns.step hb1; (focus ((repeat (first | exact K | apply Owns.alloc | apply Owns.drew | apply Owns.set)) <;> simp)); clear K; intro K; have KO := K; (try simp [Owns, setIn] at KO)) | (go_at_call 14; refine (is_any _ _ _ (by assumption) (by assumption)).mono ?_; rintro e w1 ⟨rfl, hb1⟩; (try clear KO); refine Grew.step (a := w) hb1 ?_ ?_; (focus ((repeat (first | exact hG | refine Grew.drew ?_ | refine Grew.alloc ?_ | refine Grew.setCell ?_ ?_)) <;> simp)); clear hG; intro hG; apply Owns.step hb1; (focus ((repeat (first | exact K | apply Owns.alloc | apply Owns.drew | apply Owns.set)) <;> simp)); clear K; intro K; have KO := K; (try simp [Owns, setIn] at KO)) | (go_at_call 18; refine (within_any _ _ _ _ _ (by assumption) (by assumption) (by assumption) (by assumption)).mono ?_; rintro e w1 ⟨rfl, hb1⟩; (try clear KO); refine Grew.step (a := w) hb1 ?_ ?_; (focus ((repeat (first | exact hG | refine Grew.drew ?_ | refine Grew.alloc ?_ | refine Grew.setCell ?_ ?_)) <;> simp)); clear hG; intro hG; apply Owns.step hb1; (focus ((repeat (first | exact K | apply Owns.alloc | apply Owns.drew | apply Owns.set)) <;> simp)); clear K; intro K; have KO := K; (try simp [Owns, setIn] at KO)) | (go_at_call 16; refine (has_any _ _ _ _ (by assumption) (by assumption) (by assumption)).mono ?_; rintro e w1 ⟨rfl, hb1⟩; (try clear KO); refine Grew.step (a := w) hb1 ?_ ?_; (focus ((repeat (first | exact hG | refine Grew.drew ?_ | refine Grew.alloc ?_ | refine Grew.setCell ?_ ?_)) <;> simp)); clear hG; intro hG; apply Owns.step hb1; (focus ((repeat (first | exact K | apply Owns.alloc | apply Owns.drew | apply Owns.set)) <;> simp)); clear K; intro K; have KO := K; (try simp [Owns, setIn] at KO)) | (go_at_call 10; refine (cut_any _ _ _ _ (by assumption) (by assumption) (by assumption)).mono ?_; rintro e w1 ⟨rfl, hb1⟩; (try clear KO); refine Grew.step (a := w) hb1 ?_ ?_; (focus ((repeat (first | exact hG | refine Grew.drew ?_ | refine Grew.alloc ?_ | refine Grew.setCell ?_ ?_)) <;> simp)); clear hG; intro hG; apply Owns.step hb1; (focus ((repeat (first | exact K | apply Owns.alloc | apply Owns.drew | apply Owns.set)) <;> simp)); clear K; intro K; have KO := K; (try simp [Owns, setIn] at KO)) | (go_at_call 20; refine (touch_any _ _ _ _ _ (by assumption) (by assumption) (by assumption) (by assumption)).mono ?_; rintro e w1 ⟨rfl, hb1⟩; (try clear KO); refine Grew.step (a := w) hb1 ?_ ?_; (focus ((repeat (first | exact hG | refine Grew.drew ?_ | refine Grew.alloc ?_ | refine Grew.setCell ?_ ?_)) <;> simp)); clear hG; intro hG; apply Owns.step hb1; (focus ((repeat (first | exact K | apply Owns.alloc | apply Owns.drew | apply Owns.set)) <;> simp)); clear K; intro K; have KO := K; (try simp [Owns, setIn] at KO)))
    (apply settle (w := w); (focus ((repeat (first | exact hG | refine Grew.drew ?_ | refine Grew.alloc ?_ | refine Grew.setCell ?_ ?_)) <;> simp)); (focus ((repeat (first | exact K | apply Owns.alloc | apply Owns.drew | apply Owns.set)) <;> simp)); (try clear KO); clear hG K; intro w1 hG K; have KO := K; (try simp [Owns, setIn] at KO); (try simp only [List.append]); refine wp_region_grown (by kernel_rfl) (by kernel_rfl) ?_; (repeat (go_big_quiet_step ((first | (go_at_call 18; exact calls_grown_b (by assumption) (within_any _ _ _ _ _ (by assumption) (by assumption) (by assumption) (by assumption))) | (go_at_call 16; exact calls_grown_b (by assumption) (has_any _ _ _ _ (by assumption) (by assumption) (by assumption))) | (go_at_call 20; exact calls_grown_b (by assumption) (touch_any _ _ _ _ _ (by assumption) (by assumption) (by assumption) (by assumption))))))); refine wpQuiet_nil ?_; intro w1 hb1; (try clear KO); refine Grew.step (a := w) hb1 ?_ ?_; (focus ((repeat (first | exact hG | refine Grew.drew ?_ | refine Grew.alloc ?_ | refine Grew.setCell ?_ ?_)) <;> simp)); clear hG; intro hG; apply Owns.step hb1; (focus ((repeat (first | exact K | apply Owns.alloc | apply Owns.drew | apply Owns.set)) <;> simp)); clear K; intro K; have KO := K; (try simp [Owns, setIn] at KO))
    go_wp2
    (go_ret; exact ⟨rfl, by (repeat (first | exact hG | refine Grew.drew ?_ | refine Grew.alloc ?_ | refine Grew.setCell ?_ ?_))⟩)

theorem spanKeys_any (a b c d k t : Bs) (w : World) (ha : a.length ≤ maxLen) (hb : b.length ≤ maxLen) (hc : c.length ≤ maxLen) (hd : d.length ≤ maxLen) (hk : k.length ≤ maxLen) (ht : t.length ≤ maxLen) :
    Calls Try.prog 4 #[.agg #[S a, S b], .agg #[S c, S d], S k, S t] w fun e w' => e = .returned (.bool true) ∧ Grew w w' := by
  cases g1 : isB a b with
  | false => exact spanKeys_out0 a b c d k t w ha hb hc hd hk ht g1
  | true =>
    cases g2 : isB c d with
    | false => exact spanKeys_out1 a b c d k t w ha hb hc hd hk ht g1 g2
    | true =>
      by_cases g3 : k.length ≤ 20
      · by_cases g4 : t.length ≤ 20
        · obtain ⟨x, y, hx, hy, v1, hq⟩ : ∃ x y : Bs, x.length ≤ maxLen ∧ y.length ≤ maxLen ∧ meetV a b c d = .agg #[S x, S y] ∧ (meetB a b c d = true → hasB x y k = (hasB a b k && hasB c d k)) := by
            unfold meetV; split
            · exact ⟨_, _, maxB_len _ _ _ ha hc, lowOf_len _ _ _ hb hd, rfl, fun h => has_meet a b c d k h⟩
            · rename_i h
              exact ⟨[], [], by simp, by simp, rfl, fun h2 => absurd h2 h⟩
          have ok : (hasB a b k = true ∧ meetB a b c d = true ∧ hasB x y k = hasB c d k) ∨ (hasB a b k = true ∧ meetB a b c d = false ∧ hasB c d k = false) ∨ (hasB a b k = false ∧ meetB a b c d = true ∧ hasB x y k = false) ∨ (hasB a b k = false ∧ meetB a b c d = false) := by
            cases h1 : hasB a b k with
            | true =>
              cases h2 : meetB a b c d with
              | true => exact .inl ⟨rfl, rfl, by rw [hq h2, h1]; rfl⟩
              | false =>
                refine .inr (.inl ⟨rfl, rfl, ?_⟩)
                cases h3 : hasB c d k with
                | false => rfl
                | true => have := meet_of_has a b c d k g1 g2 h1 h3; rw [h2] at this; cases this
            | false =>
              cases h2 : meetB a b c d with
              | true => exact .inr (.inr (.inl ⟨rfl, rfl, by rw [hq h2, h1]; rfl⟩))
              | false => exact .inr (.inr (.inr ⟨rfl, rfl⟩))
          cases hcut : cutB a b t with
          | false => exact spanKeys_cutno a b c d k t x y _ _ _ _ w ha hb hc hd hk ht g1 g2 g3 g4 hx hy v1 (by simp [cutV, hcut]) rfl rfl rfl rfl ok
          | true =>
            obtain ⟨z1, z2, z3, z4, z5⟩ := cut_facts a b t k hcut
            refine spanKeys_cut a b c d k t x y _ _ _ _ _ _ w ha hb hc hd hk ht g1 g2 g3 g4 hx hy v1 (by simp [cutV, hcut]) rfl rfl rfl rfl z1 z2 z3 rfl rfl ok ?_
            rw [z4]
            cases h1 : hasB a t k <;> cases h2 : hasB t b k <;> simp_all
        · exact spanKeys_out3 a b c d k t w ha hb hc hd hk ht g1 g2 g3 (by omega)
      · exact spanKeys_out2 a b c d k t w ha hb hc hd hk ht g1 g2 (by omega)
end Go.Proofs.Ytjjdblfnffcdlaa
