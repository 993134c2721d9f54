/-
  The arguments of FaultOnce as words. No conditions.
-/
import Derived.Test.YthchmjdgepbjpaaDoorAbsLaw
namespace Go.Proofs.YthchmjdgepbjpaaDoor
open Go.ChangeShapes Go.WideShapes Go.ChangeAt Go.RowKit Go.Joins
set_option linter.unusedSimpArgs false
set_option linter.unusedVariables false
section
variable {H : Type} {enc : TypeId × Value → H} {w : World} {base : Nat} {sp : Nat → Bool} {hd : Bool} {r : Go.Reach} {b0 : Nat} {v : Value} {d : DataW H} {ps : List MemPlace}
set_option maxRecDepth 100000 in
theorem in_text (hv : Value.okWide Tryd.prog w r b0 9 v) (h : DataW.Trod enc Tryd.prog w base sp hd 9 v d ps) : ∃ l : Bs, l.length ≤ maxLen ∧ Rep w (allR w) rho0 (.str l) v := by
  obtain ⟨s, rfl⟩ := okWide_string Tryd.underlying9 hv
  obtain ⟨u, ⟨l, us, e, hl, rfl⟩, hr⟩ := open_one (n := 1) (sh := (.s .nil)) (by kernel_rfl) rfl h
  cases e
  exact ⟨l, hl, hr⟩
set_option maxRecDepth 100000 in
theorem in_u8 (hv : Value.okWide Tryd.prog w r b0 5 v) (h : DataW.Trod enc Tryd.prog w base sp hd 5 v d ps) : ∃ n : Int, (0 ≤ n ∧ n ≤ 255) ∧ Rep w (allR w) rho0 (.int .u8 n) v := by
  obtain ⟨s, rfl⟩ := okWide_int Tryd.underlying5 hv
  obtain ⟨u, ⟨n, us, e, hl, rfl⟩, hr⟩ := open_one (n := 1) (sh := (.i .u8 .nil)) (by kernel_rfl) rfl h
  cases e
  exact ⟨n, by simpa [Lit.wf, IntKind.min, IntKind.max, IntKind.signed, IntKind.bits] using hl, hr⟩
end
end Go.Proofs.YthchmjdgepbjpaaDoor

-- tabvar