/-
  The table of types is true of this seat's program. No conditions.
-/
import Derived.Test.YthcbffejjkmmfaaAbsAw
import Derived.Test.YthcbffejjkmmfaaAbsTab
namespace Go.Proofs.Ythcbffejjkmmfaa
open Go.RowKit
theorem tabOk_of {P : Program} : ∀ (l : List (Option TI)) (k : Nat), tabOkB P k l = true → ∀ j ti, nthO l j = some ti → tiOkB P (k + j) ti = true
  | [], _, _, j, ti, h => by cases h
  | none :: r, k, hb, 0, ti, h => by cases h
  | some t :: r, k, hb, 0, ti, h => by
    simp only [tabOkB, Bool.and_eq_true] at hb
    cases h; exact hb.1
  | none :: r, k, hb, j + 1, ti, h => by
    have := tabOk_of r (k + 1) hb j ti h
    rw [show k + 1 + j = k + (j + 1) by omega] at this; exact this
  | some t :: r, k, hb, j + 1, ti, h => by
    simp only [tabOkB, Bool.and_eq_true] at hb
    have := tabOk_of r (k + 1) hb.2 j ti h
    rw [show k + 1 + j = k + (j + 1) by omega] at this; exact this
theorem eqOk_of {P : Program} : ∀ (l : List (Option (List EK))) (k : Nat), eqOkB P k l = true → ∀ j ks, nthE l j = some ks → ekOkB P (k + j) ks = true
  | [], _, _, j, ks, h => by cases h
  | none :: r, k, hb, 0, ks, h => by cases h
  | some t :: r, k, hb, 0, ks, h => by
    simp only [eqOkB, Bool.and_eq_true] at hb
    cases h; exact hb.1
  | none :: r, k, hb, j + 1, ks, h => by
    have := eqOk_of r (k + 1) hb j ks h
    rw [show k + 1 + j = k + (j + 1) by omega] at this; exact this
  | some t :: r, k, hb, j + 1, ks, h => by
    simp only [eqOkB, Bool.and_eq_true] at hb
    have := eqOk_of r (k + 1) hb.2 j ks h
    rw [show k + 1 + j = k + (j + 1) by omega] at this; exact this
theorem base : Base Try.prog tab where
  follows := by kernel_rfl
  tab := ⟨fun t ti h => by have := tabOk_of (P := Try.prog) tabL 0 (by kernel_rfl) t ti h; rw [Nat.zero_add] at this; exact this,
    fun t ks h => by have := eqOk_of (P := Try.prog) eqL 0 (by kernel_rfl) t ks h; rw [Nat.zero_add] at this; exact this⟩
/-- a slice's rows -/
theorem rows_of (t : TypeId) {el : TypeId} {E : Nat} (h : tab t = some (.slice el E)) : ∃ E, RowInfo Try.prog el E := ⟨E, (tiOk_slice (base.tab.ti t _ h)).2⟩
end Go.Proofs.Ythcbffejjkmmfaa
