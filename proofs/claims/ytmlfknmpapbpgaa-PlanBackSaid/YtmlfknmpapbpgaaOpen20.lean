/-
  The arguments of these laws as words. No conditions.
-/
import Derived.Test.YtmlfknmpapbpgaaAbsLaw
import Derived.Test.YtmlfknmpapbpgaaLaw20c
namespace Go.Proofs.Ytmlfknmpapbpgaa
open Go.ChangeShapes Go.WideShapes Go.ChangeAt Go.RowKit Go.Joins
set_option linter.unusedSimpArgs false
set_option linter.unusedVariables false
section
variable {H : Type} {enc : TypeId × Value → H} {w : World} {base : Nat} {sp : Nat → Bool} {hd : Bool} {r : Go.Reach} {b0 : Nat} {v : Value} {d : DataW H} {ps : List MemPlace}
set_option maxRecDepth 100000 in
theorem in_text (hv : Value.okWide Try.prog w r b0 9 v) (h : DataW.Trod enc Try.prog w base sp hd 9 v d ps) : ∃ l : Bs, l.length ≤ maxLen ∧ Rep w (allR w) rho0 (.str l) v := by
  obtain ⟨s, rfl⟩ := okWide_string Try.underlying9 hv
  obtain ⟨u, ⟨l, us, e, hl, rfl⟩, hr⟩ := open_one (n := 1) (sh := (.s .nil)) (by kernel_rfl) rfl h
  cases e
  exact ⟨l, hl, hr⟩
set_option maxRecDepth 100000 in
theorem in_u8 (hv : Value.okWide Try.prog w r b0 5 v) (h : DataW.Trod enc Try.prog w base sp hd 5 v d ps) : ∃ n : Int, (0 ≤ n ∧ n ≤ 255) ∧ Rep w (allR w) rho0 (.int .u8 n) v := by
  obtain ⟨s, rfl⟩ := okWide_int Try.underlying5 hv
  obtain ⟨u, ⟨n, us, e, hl, rfl⟩, hr⟩ := open_one (n := 1) (sh := (.i .u8 .nil)) (by kernel_rfl) rfl h
  cases e
  exact ⟨n, by simpa [Lit.wf, IntKind.min, IntKind.max, IntKind.signed, IntKind.bits] using hl, hr⟩
set_option maxRecDepth 100000 in
theorem in_u16s (hv : Value.okWide Try.prog w r b0 22 v) (h : DataW.Trod enc Try.prog w base sp hd 22 v d ps) : ∃ l : List UInt16, True ∧ Rep w (allR w) rho0 (.sl (l.map encH)) v := by
  obtain ⟨a, n, c, rfl⟩ := okWide_slice Try.underlying22 hv
  obtain ⟨u, ⟨rows, us, e, hrows, rfl⟩, hr⟩ := open_one (n := 2) (sh := (.sl (.i .u16 .nil) .nil)) (by kernel_rfl) rfl h
  cases e
  obtain ⟨l, rfl⟩ := rows_map (f := encH) (rows := rows) fun row hrow => by
    obtain ⟨a, us, rfl, ha, rfl⟩ := hrows row hrow
    have h1 : 0 ≤ a ∧ a ≤ 65535 := by simpa [Lit.wf, IntKind.min, IntKind.max, IntKind.signed, IntKind.bits] using ha
    refine ⟨UInt16.ofNat a.toNat, ?_⟩
    simp only [encH, UInt16.toNat_ofNat', List.cons.injEq, V.int.injEq, and_true, true_and]
    omega
  exact ⟨l, trivial, hr⟩
end
end Go.Proofs.Ytmlfknmpapbpgaa
