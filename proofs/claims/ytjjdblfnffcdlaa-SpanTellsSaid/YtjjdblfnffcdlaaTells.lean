/-
  The walk of 'SpanTells': of every two spans and every text the law answers true. Condition: the texts are no longer than a length can say.
-/
import Derived.Test.YtjjdblfnffcdlaaKnown
namespace Go.Proofs.Ytjjdblfnffcdlaa
open Go.RowKit
set_option linter.unusedSimpArgs false
set_option linter.unusedVariables false

set_option maxRecDepth 100000 in
set_option maxHeartbeats 2000000 in
theorem spanTells_over0 (a b c d k : Bs) (w : World) (ha : a.length ≤ maxLen) (hb : b.length ≤ maxLen) (hc : c.length ≤ maxLen) (hd : d.length ≤ maxLen) (hk : k.length ≤ maxLen) (ga : 20 < a.length) :
    Calls Try.prog 3 #[.agg #[S a, S b], .agg #[S c, S d], S k] w fun e w' => e = .returned (.bool true) ∧ Grew w w' := by
  unfold maxLen at ha hb hc hd hk
  have hG := Grew.refl w
  have K := Owns.nil w
  go_enter Try.func3, Try.ntmps3
  go_wp2_with (first | (go_at_call 7; refine (known_any _).mono ?_; rintro e w1 ⟨rfl, hb1⟩; (try clear KO); refine Grew.step (a := w) hb1 ?_ ?_; (focus ((repeat (first | exact hG | refine Grew.drew ?_ | refine Grew.alloc ?_ | refine Grew.setCell ?_ ?_)) <;> simp)); clear hG; intro hG; apply Owns.step hb1; (focus ((repeat (first | exact K | apply Owns.alloc | apply Owns.drew | apply Owns.set)) <;> simp)); clear K; intro K; have KO := K; (try simp [Owns, setIn] at KO)))
  (go_ret; exact ⟨rfl, by (repeat (first | exact hG | refine Grew.drew ?_ | refine Grew.alloc ?_ | refine Grew.setCell ?_ ?_))⟩)

set_option maxRecDepth 100000 in
set_option maxHeartbeats 2000000 in
theorem spanTells_over1 (a b c d k : Bs) (w : World) (ha : a.length ≤ maxLen) (hb : b.length ≤ maxLen) (hc : c.length ≤ maxLen) (hd : d.length ≤ maxLen) (hk : k.length ≤ maxLen) (ga : a.length ≤ 20) (gb : 20 < b.length) :
    Calls Try.prog 3 #[.agg #[S a, S b], .agg #[S c, S d], S k] w fun e w' => e = .returned (.bool true) ∧ Grew w w' := by
  unfold maxLen at ha hb hc hd hk
  have hG := Grew.refl w
  have K := Owns.nil w
  go_enter Try.func3, Try.ntmps3
  go_wp2_with (first | (go_at_call 7; refine (known_any _).mono ?_; rintro e w1 ⟨rfl, hb1⟩; (try clear KO); refine Grew.step (a := w) hb1 ?_ ?_; (focus ((repeat (first | exact hG | refine Grew.drew ?_ | refine Grew.alloc ?_ | refine Grew.setCell ?_ ?_)) <;> simp)); clear hG; intro hG; apply Owns.step hb1; (focus ((repeat (first | exact K | apply Owns.alloc | apply Owns.drew | apply Owns.set)) <;> simp)); clear K; intro K; have KO := K; (try simp [Owns, setIn] at KO)))
  (go_ret; exact ⟨rfl, by (repeat (first | exact hG | refine Grew.drew ?_ | refine Grew.alloc ?_ | refine Grew.setCell ?_ ?_))⟩)

set_option maxRecDepth 100000 in
set_option maxHeartbeats 2000000 in
theorem spanTells_over2 (a b c d k : Bs) (w : World) (ha : a.length ≤ maxLen) (hb : b.length ≤ maxLen) (hc : c.length ≤ maxLen) (hd : d.length ≤ maxLen) (hk : k.length ≤ maxLen) (ga : a.length ≤ 20) (gb : b.length ≤ 20) (gc : 20 < c.length) :
    Calls Try.prog 3 #[.agg #[S a, S b], .agg #[S c, S d], S k] w fun e w' => e = .returned (.bool true) ∧ Grew w w' := by
  unfold maxLen at ha hb hc hd hk
  have hG := Grew.refl w
  have K := Owns.nil w
  go_enter Try.func3, Try.ntmps3
  go_wp2_with (first | (go_at_call 7; refine (known_any _).mono ?_; rintro e w1 ⟨rfl, hb1⟩; (try clear KO); refine Grew.step (a := w) hb1 ?_ ?_; (focus ((repeat (first | exact hG | refine Grew.drew ?_ | refine Grew.alloc ?_ | refine Grew.setCell ?_ ?_)) <;> simp)); clear hG; intro hG; apply Owns.step hb1; (focus ((repeat (first | exact K | apply Owns.alloc | apply Owns.drew | apply Owns.set)) <;> simp)); clear K; intro K; have KO := K; (try simp [Owns, setIn] at KO)))
  (go_ret; exact ⟨rfl, by (repeat (first | exact hG | refine Grew.drew ?_ | refine Grew.alloc ?_ | refine Grew.setCell ?_ ?_))⟩)

set_option maxRecDepth 100000 in
set_option maxHeartbeats 2000000 in
theorem spanTells_over3 (a b c d k : Bs) (w : World) (ha : a.length ≤ maxLen) (hb : b.length ≤ maxLen) (hc : c.length ≤ maxLen) (hd : d.length ≤ maxLen) (hk : k.length ≤ maxLen) (ga : a.length ≤ 20) (gb : b.length ≤ 20) (gc : c.length ≤ 20) (gd : 20 < d.length) :
    Calls Try.prog 3 #[.agg #[S a, S b], .agg #[S c, S d], S k] w fun e w' => e = .returned (.bool true) ∧ Grew w w' := by
  unfold maxLen at ha hb hc hd hk
  have hG := Grew.refl w
  have K := Owns.nil w
  go_enter Try.func3, Try.ntmps3
  go_wp2_with (first | (go_at_call 7; refine (known_any _).mono ?_; rintro e w1 ⟨rfl, hb1⟩; (try clear KO); refine Grew.step (a := w) hb1 ?_ ?_; (focus ((repeat (first | exact hG | refine Grew.drew ?_ | refine Grew.alloc ?_ | refine Grew.setCell ?_ ?_)) <;> simp)); clear hG; intro hG; apply Owns.step hb1; (focus ((repeat (first | exact K | apply Owns.alloc | apply Owns.drew | apply Owns.set)) <;> simp)); clear K; intro K; have KO := K; (try simp [Owns, setIn] at KO)))
  (go_ret; exact ⟨rfl, by (repeat (first | exact hG | refine Grew.drew ?_ | refine Grew.alloc ?_ | refine Grew.setCell ?_ ?_))⟩)

set_option maxRecDepth 100000 in
set_option maxHeartbeats 2000000 in
theorem spanTells_over4 (a b c d k : Bs) (w : World) (ha : a.length ≤ maxLen) (hb : b.length ≤ maxLen) (hc : c.length ≤ maxLen) (hd : d.length ≤ maxLen) (hk : k.length ≤ maxLen) (ga : a.length ≤ 20) (gb : b.length ≤ 20) (gc : c.length ≤ 20) (gd : d.length ≤ 20) (gk : 20 < k.length) :
    Calls Try.prog 3 #[.agg #[S a, S b], .agg #[S c, S d], S k] w fun e w' => e = .returned (.bool true) ∧ Grew w w' := by
  unfold maxLen at ha hb hc hd hk
  have hG := Grew.refl w
  have K := Owns.nil w
  go_enter Try.func3, Try.ntmps3
  go_wp2_with (first | (go_at_call 7; refine (known_any _).mono ?_; rintro e w1 ⟨rfl, hb1⟩; (try clear KO); refine Grew.step (a := w) hb1 ?_ ?_; (focus ((repeat (first | exact hG | refine Grew.drew ?_ | refine Grew.alloc ?_ | refine Grew.setCell ?_ ?_)) <;> simp)); clear hG; intro hG; apply Owns.step hb1; (focus ((repeat (first | exact K | apply Owns.alloc | apply Owns.drew | apply Owns.set)) <;> simp)); clear K; intro K; have KO := K; (try simp [Owns, setIn] at KO)))
  (go_ret; exact ⟨rfl, by (repeat (first | exact hG | refine Grew.drew ?_ | refine Grew.alloc ?_ | refine Grew.setCell ?_ ?_))⟩)

set_option maxRecDepth 100000 in
set_option maxHeartbeats 4000000 in
theorem spanTells_in (a b c d k x y x1 y1 x2 y2 : Bs) (m m2 : Bool) (w : World) (ha : a.length ≤ maxLen) (hb : b.length ≤ maxLen) (hc : c.length ≤ maxLen) (hd : d.length ≤ maxLen) (hk : k.length ≤ maxLen)
    (ga : a.length ≤ 20) (gb : b.length ≤ 20) (gc : c.length ≤ 20) (gd : d.length ≤ 20) (gk : k.length ≤ 20)
    (v1 : meetV a b c d = .agg #[S x, S y]) (v2 : cutV a b k = .tuple #[.agg #[S x1, S y1], .agg #[S x2, S y2], .bool m2]) :
    Calls Try.prog 3 #[.agg #[S a, S b], .agg #[S c, S d], S k] w fun e w' => e = .returned (.bool true) ∧ Grew w w' := by
  have hG := Grew.refl w
  have K := Owns.nil w
  go_enter Try.func3, Try.ntmps3
  go_wp2_with (first | (go_at_call 7; refine (known_any _).mono ?_; rintro e w1 ⟨rfl, hb1⟩; (try clear KO); refine Grew.step (a := w) hb1 ?_ ?_; (focus ((repeat (first | exact hG | refine Grew.drew ?_ | refine Grew.alloc ?_ | refine Grew.setCell ?_ ?_)) <;> simp)); clear hG; intro hG; apply Owns.step hb1; (focus ((repeat (first | exact K | apply Owns.alloc | apply Owns.drew | apply Owns.set)) <;> simp)); clear K; intro K; have KO := K; (try simp [Owns, setIn] at KO)) | (go_at_call 8; refine (meet_any _ _ _ _ _ (by assumption) (by assumption) (by assumption) (by assumption)).mono ?_; rintro e w1 ⟨rfl, hb1⟩; (try clear KO); refine Grew.step (a := w) hb1 ?_ ?_; (focus ((repeat (first | exact hG | refine Grew.drew ?_ | refine Grew.alloc ?_ | refine Grew.setCell ?_ ?_)) <;> simp)); clear hG; intro hG; apply Owns.step hb1; (focus ((repeat (first | exact K | apply Owns.alloc | apply Owns.drew | apply Owns.set)) <;> simp)); clear K; intro K; have KO := K; (try simp [Owns, setIn] at KO)) | (go_at_call 14; refine (is_any _ _ _ (by assumption) (by assumption)).mono ?_; rintro e w1 ⟨rfl, hb1⟩; (try clear KO); refine Grew.step (a := w) hb1 ?_ ?_; (focus ((repeat (first | exact hG | refine Grew.drew ?_ | refine Grew.alloc ?_ | refine Grew.setCell ?_ ?_)) <;> simp)); clear hG; intro hG; apply Owns.step hb1; (focus ((repeat (first | exact K | apply Owns.alloc | apply Owns.drew | apply Owns.set)) <;> simp)); clear K; intro K; have KO := K; (try simp [Owns, setIn] at KO)) | (go_at_call 18; refine (within_any _ _ _ _ _ (by assumption) (by assumption) (by assumption) (by assumption)).mono ?_; rintro e w1 ⟨rfl, hb1⟩; (try clear KO); refine Grew.step (a := w) hb1 ?_ ?_; (focus ((repeat (first | exact hG | refine Grew.drew ?_ | refine Grew.alloc ?_ | refine Grew.setCell ?_ ?_)) <;> simp)); clear hG; intro hG; apply Owns.step hb1; (focus ((repeat (first | exact K | apply Owns.alloc | apply Owns.drew | apply Owns.set)) <;> simp)); clear K; intro K; have KO := K; (try simp [Owns, setIn] at KO)) | (go_at_call 16; refine (has_any _ _ _ _ (by assumption) (by assumption) (by assumption)).mono ?_; rintro e w1 ⟨rfl, hb1⟩; (try clear KO); refine Grew.step (a := w) hb1 ?_ ?_; (focus ((repeat (first | exact hG | refine Grew.drew ?_ | refine Grew.alloc ?_ | refine Grew.setCell ?_ ?_)) <;> simp)); clear hG; intro hG; apply Owns.step hb1; (focus ((repeat (first | exact K | apply Owns.alloc | apply Owns.drew | apply Owns.set)) <;> simp)); clear K; intro K; have KO := K; (try simp [Owns, setIn] at KO)) | (go_at_call 10; refine (cut_any _ _ _ _ (by assumption) (by assumption) (by assumption)).mono ?_; rintro e w1 ⟨rfl, hb1⟩; (try clear KO); refine Grew.step (a := w) hb1 ?_ ?_; (focus ((repeat (first | exact hG | refine Grew.drew ?_ | refine Grew.alloc ?_ | refine Grew.setCell ?_ ?_)) <;> simp)); clear hG; intro hG; apply Owns.step hb1; (focus ((repeat (first | exact K | apply Owns.alloc | apply Owns.drew | apply Owns.set)) <;> simp)); clear K; intro K; have KO := K; (try simp [Owns, setIn] at KO)) | (go_at_call 20; refine (touch_any _ _ _ _ _ (by assumption) (by assumption) (by assumption) (by assumption)).mono ?_; rintro e w1 ⟨rfl, hb1⟩; (try clear KO); refine Grew.step (a := w) hb1 ?_ ?_; (focus ((repeat (first | exact hG | refine Grew.drew ?_ | refine Grew.alloc ?_ | refine Grew.setCell ?_ ?_)) <;> simp)); clear hG; intro hG; apply Owns.step hb1; (focus ((repeat (first | exact K | apply Owns.alloc | apply Owns.drew | apply Owns.set)) <;> simp)); clear K; intro K; have KO := K; (try simp [Owns, setIn] at KO)) | (go_at_call 12; refine (isKey_any _ _ (by assumption)).mono ?_; rintro e w1 ⟨rfl, rfl⟩) | (go_at_call 9; refine (meetr_any _ _ _ _ _ (by assumption) (by assumption) (by assumption) (by assumption)).mono ?_; rintro e w1 ⟨rfl, hb1⟩; (try clear KO); refine Grew.step (a := w) hb1 ?_ ?_; (focus ((repeat (first | exact hG | refine Grew.drew ?_ | refine Grew.alloc ?_ | refine Grew.setCell ?_ ?_)) <;> simp)); clear hG; intro hG; apply Owns.step hb1; (focus ((repeat (first | exact K | apply Owns.alloc | apply Owns.drew | apply Owns.set)) <;> simp)); clear K; intro K; have KO := K; (try simp [Owns, setIn] at KO)) | (go_at_call 15; refine (isr_any _ _ _ (by assumption) (by assumption)).mono ?_; rintro e w1 ⟨rfl, hb1⟩; (try clear KO); refine Grew.step (a := w) hb1 ?_ ?_; (focus ((repeat (first | exact hG | refine Grew.drew ?_ | refine Grew.alloc ?_ | refine Grew.setCell ?_ ?_)) <;> simp)); clear hG; intro hG; apply Owns.step hb1; (focus ((repeat (first | exact K | apply Owns.alloc | apply Owns.drew | apply Owns.set)) <;> simp)); clear K; intro K; have KO := K; (try simp [Owns, setIn] at KO)) | (go_at_call 19; refine (withinr_any _ _ _ _ _ (by assumption) (by assumption) (by assumption) (by assumption)).mono ?_; rintro e w1 ⟨rfl, hb1⟩; (try clear KO); refine Grew.step (a := w) hb1 ?_ ?_; (focus ((repeat (first | exact hG | refine Grew.drew ?_ | refine Grew.alloc ?_ | refine Grew.setCell ?_ ?_)) <;> simp)); clear hG; intro hG; apply Owns.step hb1; (focus ((repeat (first | exact K | apply Owns.alloc | apply Owns.drew | apply Owns.set)) <;> simp)); clear K; intro K; have KO := K; (try simp [Owns, setIn] at KO)) | (go_at_call 17; refine (hasr_any _ _ _ _ (by assumption) (by assumption) (by assumption)).mono ?_; rintro e w1 ⟨rfl, hb1⟩; (try clear KO); refine Grew.step (a := w) hb1 ?_ ?_; (focus ((repeat (first | exact hG | refine Grew.drew ?_ | refine Grew.alloc ?_ | refine Grew.setCell ?_ ?_)) <;> simp)); clear hG; intro hG; apply Owns.step hb1; (focus ((repeat (first | exact K | apply Owns.alloc | apply Owns.drew | apply Owns.set)) <;> simp)); clear K; intro K; have KO := K; (try simp [Owns, setIn] at KO)) | (go_at_call 11; refine (cutr_any _ _ _ _ (by assumption) (by assumption) (by assumption)).mono ?_; rintro e w1 ⟨rfl, hb1⟩; (try clear KO); refine Grew.step (a := w) hb1 ?_ ?_; (focus ((repeat (first | exact hG | refine Grew.drew ?_ | refine Grew.alloc ?_ | refine Grew.setCell ?_ ?_)) <;> simp)); clear hG; intro hG; apply Owns.step hb1; (focus ((repeat (first | exact K | apply Owns.alloc | apply Owns.drew | apply Owns.set)) <;> simp)); clear K; intro K; have KO := K; (try simp [Owns, setIn] at KO)) | (go_at_call 21; refine (touchr_any _ _ _ _ _ (by assumption) (by assumption) (by assumption) (by assumption)).mono ?_; rintro e w1 ⟨rfl, hb1⟩; (try clear KO); refine Grew.step (a := w) hb1 ?_ ?_; (focus ((repeat (first | exact hG | refine Grew.drew ?_ | refine Grew.alloc ?_ | refine Grew.setCell ?_ ?_)) <;> simp)); clear hG; intro hG; apply Owns.step hb1; (focus ((repeat (first | exact K | apply Owns.alloc | apply Owns.drew | apply Owns.set)) <;> simp)); clear K; intro K; have KO := K; (try simp [Owns, setIn] at KO)) | (go_at_call 13; refine (isKeyr_any _ _ (by assumption)).mono ?_; rintro e w1 ⟨rfl, rfl⟩))
  (apply settle (w := w); (focus ((repeat (first | exact hG | refine Grew.drew ?_ | refine Grew.alloc ?_ | refine Grew.setCell ?_ ?_)) <;> simp)); (focus ((repeat (first | exact K | apply Owns.alloc | apply Owns.drew | apply Owns.set)) <;> simp)); (try clear KO); clear hG K; intro w1 hG K; have KO := K; (try simp [Owns, setIn] at KO); (try simp only [List.append]); refine wp_region_grown (by kernel_rfl) (by kernel_rfl) ?_; (repeat (go_big_quiet_step ((first | (go_at_call 8; exact calls_grown (meet_any _ _ _ _ _ (by assumption) (by assumption) (by assumption) (by assumption))) | (go_at_call 14; exact calls_grown (is_any _ _ _ (by assumption) (by assumption))) | (go_at_call 18; exact calls_grown (within_any _ _ _ _ _ (by assumption) (by assumption) (by assumption) (by assumption))) | (go_at_call 16; exact calls_grown (has_any _ _ _ _ (by assumption) (by assumption) (by assumption))) | (go_at_call 10; exact calls_grown (cut_any _ _ _ _ (by assumption) (by assumption) (by assumption))) | (go_at_call 20; exact calls_grown (touch_any _ _ _ _ _ (by assumption) (by assumption) (by assumption) (by assumption))) | (go_at_call 12; exact calls_grown_same (isKey_any _ _ (by assumption))) | (go_at_call 9; exact calls_grown (meetr_any _ _ _ _ _ (by assumption) (by assumption) (by assumption) (by assumption))) | (go_at_call 15; exact calls_grown (isr_any _ _ _ (by assumption) (by assumption))) | (go_at_call 19; exact calls_grown (withinr_any _ _ _ _ _ (by assumption) (by assumption) (by assumption) (by assumption))) | (go_at_call 17; exact calls_grown (hasr_any _ _ _ _ (by assumption) (by assumption) (by assumption))) | (go_at_call 11; exact calls_grown (cutr_any _ _ _ _ (by assumption) (by assumption) (by assumption))) | (go_at_call 21; exact calls_grown (touchr_any _ _ _ _ _ (by assumption) (by assumption) (by assumption) (by assumption))) | (go_at_call 13; exact calls_grown_same (isKeyr_any _ _ (by assumption))))))); refine wpQuiet_nil ?_; intro w1 hb1; (try clear KO); refine Grew.step (a := w) hb1 ?_ ?_; (focus ((repeat (first | exact hG | refine Grew.drew ?_ | refine Grew.alloc ?_ | refine Grew.setCell ?_ ?_)) <;> simp)); clear hG; intro hG; apply Owns.step hb1; (focus ((repeat (first | exact K | apply Owns.alloc | apply Owns.drew | apply Owns.set)) <;> simp)); clear K; intro K; have KO := K; (try simp [Owns, setIn] at KO))
  go_wp2
  (go_ret; exact ⟨rfl, by (repeat (first | exact hG | refine Grew.drew ?_ | refine Grew.alloc ?_ | refine Grew.setCell ?_ ?_))⟩)

theorem spanTells_any (a b c d k : Bs) (w : World) (ha : a.length ≤ maxLen) (hb : b.length ≤ maxLen) (hc : c.length ≤ maxLen) (hd : d.length ≤ maxLen) (hk : k.length ≤ maxLen) :
    Calls Try.prog 3 #[.agg #[S a, S b], .agg #[S c, S d], S k] w fun e w' => e = .returned (.bool true) ∧ Grew w w' := by
  by_cases ga : a.length ≤ 20
  · by_cases gb : b.length ≤ 20
    · by_cases gc : c.length ≤ 20
      · by_cases gd : d.length ≤ 20
        · by_cases gk : k.length ≤ 20
          · obtain ⟨x, y, v1⟩ : ∃ x y : Bs, meetV a b c d = .agg #[S x, S y] := by
              unfold meetV; split
              · exact ⟨_, _, rfl⟩
              · exact ⟨[], [], rfl⟩
            obtain ⟨x1, y1, x2, y2, m2, v2⟩ : ∃ (x1 y1 x2 y2 : Bs) (m2 : Bool), cutV a b k = .tuple #[.agg #[S x1, S y1], .agg #[S x2, S y2], .bool m2] := by
              unfold cutV
              by_cases h : cutB a b k = true
              · exact ⟨a, k, k, b, true, by simp [h]⟩
              · exact ⟨[], [], [], [], false, by simp [h]⟩
            exact spanTells_in a b c d k x y x1 y1 x2 y2 true m2 w ha hb hc hd hk ga gb gc gd gk v1 v2
          · exact spanTells_over4 a b c d k w ha hb hc hd hk ga gb gc gd (by omega)
        · exact spanTells_over3 a b c d k w ha hb hc hd hk ga gb gc (by omega)
      · exact spanTells_over2 a b c d k w ha hb hc hd hk ga gb (by omega)
    · exact spanTells_over1 a b c d k w ha hb hc hd hk ga (by omega)
  · exact spanTells_over0 a b c d k w ha hb hc hd hk (by omega)
end Go.Proofs.Ytjjdblfnffcdlaa
