/-
  The walk of 'known' of the statements about spans: the few examples that each of them asks first are as they should be. No condition.
-/
import Derived.Test.YtjjdblfnffcdlaaSpan
namespace Go.Proofs.Ytjjdblfnffcdlaa
open Go.RowKit
set_option linter.unusedSimpArgs false
set_option linter.unusedVariables false

set_option maxRecDepth 100000 in
set_option maxHeartbeats 2000000 in
theorem known_any (w : World) :
    Calls Try.prog 7 #[] w fun e w' => e = .returned (.bool true) ∧ Grew w w' := by
  have e1 : meetV [98] [109] [102] [] = .agg #[S [102], S [109]] := by rfl
  have e2 : meetB [98] [109] [102] [] = true := by rfl
  have e3 : cutV [98] [109] [99] = .tuple #[.agg #[S [98], S [99]], .agg #[S [99], S [109]], .bool true] := by rfl
  have e4 : cutV [98] [109] [98] = .tuple #[.agg #[S [], S []], .agg #[S [], S []], .bool false] := by rfl
  have e5 : isKeyB [97] = true := by rfl
  have e6 : isKeyB [] = false := by rfl
  have e7 : isB [98] [109] = true := by rfl
  have e8 : isB [98] [97] = false := by rfl
  have e9 : hasB [98] [109] [98] = true := by rfl
  have e10 : hasB [98] [109] [109] = false := by rfl
  have e11 : withinB [102] [109] [102] [] = true := by rfl
  have e12 : touchB [98] [99] [99] [109] = true := by rfl
  have hG := Grew.refl w
  have K := Owns.nil w
  go_enter Try.func7, Try.ntmps7
  go_wp2_with (first | (go_at_call 8; refine (meet_any _ _ _ _ _ (by simp [maxLen]) (by simp [maxLen]) (by simp [maxLen]) (by simp [maxLen])).mono ?_; rintro e w1 ⟨rfl, hb1⟩; (try clear KO); refine Grew.step (a := w) hb1 ?_ ?_; (focus ((repeat (with_reducible (first | exact hG | refine Grew.drew ?_ | refine Grew.alloc ?_ | refine Grew.setCell ?_ ?_))) <;> simp)); clear hG; intro hG; apply Owns.step hb1; (focus ((repeat (with_reducible (first | exact K | apply Owns.alloc | apply Owns.drew | apply Owns.set))) <;> simp)); clear K; intro K; have KO := K; (try simp [Owns, setIn] at KO)) | (go_at_call 10; refine (cut_any _ _ _ _ (by simp [maxLen]) (by simp [maxLen]) (by simp [maxLen])).mono ?_; rintro e w1 ⟨rfl, hb1⟩; (try clear KO); refine Grew.step (a := w) hb1 ?_ ?_; (focus ((repeat (with_reducible (first | exact hG | refine Grew.drew ?_ | refine Grew.alloc ?_ | refine Grew.setCell ?_ ?_))) <;> simp)); clear hG; intro hG; apply Owns.step hb1; (focus ((repeat (with_reducible (first | exact K | apply Owns.alloc | apply Owns.drew | apply Owns.set))) <;> simp)); clear K; intro K; have KO := K; (try simp [Owns, setIn] at KO)) | (go_at_call 12; refine (isKey_any _ _ (by simp [maxLen])).mono ?_; rintro e w1 ⟨rfl, rfl⟩) | (go_at_call 14; refine (is_any _ _ _ (by simp [maxLen]) (by simp [maxLen])).mono ?_; rintro e w1 ⟨rfl, hb1⟩; (try clear KO); refine Grew.step (a := w) hb1 ?_ ?_; (focus ((repeat (with_reducible (first | exact hG | refine Grew.drew ?_ | refine Grew.alloc ?_ | refine Grew.setCell ?_ ?_))) <;> simp)); clear hG; intro hG; apply Owns.step hb1; (focus ((repeat (with_reducible (first | exact K | apply Owns.alloc | apply Owns.drew | apply Owns.set))) <;> simp)); clear K; intro K; have KO := K; (try simp [Owns, setIn] at KO)) | (go_at_call 16; refine (has_any _ _ _ _ (by simp [maxLen]) (by simp [maxLen]) (by simp [maxLen])).mono ?_; rintro e w1 ⟨rfl, hb1⟩; (try clear KO); refine Grew.step (a := w) hb1 ?_ ?_; (focus ((repeat (with_reducible (first | exact hG | refine Grew.drew ?_ | refine Grew.alloc ?_ | refine Grew.setCell ?_ ?_))) <;> simp)); clear hG; intro hG; apply Owns.step hb1; (focus ((repeat (with_reducible (first | exact K | apply Owns.alloc | apply Owns.drew | apply Owns.set))) <;> simp)); clear K; intro K; have KO := K; (try simp [Owns, setIn] at KO)) | (go_at_call 18; refine (within_any _ _ _ _ _ (by simp [maxLen]) (by simp [maxLen]) (by simp [maxLen]) (by simp [maxLen])).mono ?_; rintro e w1 ⟨rfl, hb1⟩; (try clear KO); refine Grew.step (a := w) hb1 ?_ ?_; (focus ((repeat (with_reducible (first | exact hG | refine Grew.drew ?_ | refine Grew.alloc ?_ | refine Grew.setCell ?_ ?_))) <;> simp)); clear hG; intro hG; apply Owns.step hb1; (focus ((repeat (with_reducible (first | exact K | apply Owns.alloc | apply Owns.drew | apply Owns.set))) <;> simp)); clear K; intro K; have KO := K; (try simp [Owns, setIn] at KO)) | (go_at_call 20; refine (touch_any _ _ _ _ _ (by simp [maxLen]) (by simp [maxLen]) (by simp [maxLen]) (by simp [maxLen])).mono ?_; rintro e w1 ⟨rfl, hb1⟩; (try clear KO); refine Grew.step (a := w) hb1 ?_ ?_; (focus ((repeat (with_reducible (first | exact hG | refine Grew.drew ?_ | refine Grew.alloc ?_ | refine Grew.setCell ?_ ?_))) <;> simp)); clear hG; intro hG; apply Owns.step hb1; (focus ((repeat (with_reducible (first | exact K | apply Owns.alloc | apply Owns.drew | apply Owns.set))) <;> simp)); clear K; intro K; have KO := K; (try simp [Owns, setIn] at KO)))
  go_ret
  exact ⟨rfl, by (repeat (with_reducible (first | exact hG | refine Grew.drew ?_ | refine Grew.alloc ?_ | refine Grew.setCell ?_ ?_)))⟩
end Go.Proofs.Ytjjdblfnffcdlaa
