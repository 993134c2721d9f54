/-
  The arguments of these laws as words: lists of places, spans, texts. No conditions.
-/
import Derived.Test.YthcbffejjkmmfaaAbsLaw
import Derived.Test.YthcbffejjkmmfaaPl
namespace Go.Proofs.Ythcbffejjkmmfaa
open Go.ChangeShapes Go.WideShapes Go.ChangeAt Go.RowKit Go.Joins
set_option linter.unusedSimpArgs false
set_option linter.unusedVariables false
section
variable {H : Type} {enc : TypeId × Value → H} {w : World} {base : Nat} {sp : Nat → Bool} {hd : Bool} {r : Go.Reach} {b0 : Nat} {v : Value} {d : DataW H} {ps : List MemPlace}
theorem in_text (hv : Value.okWide Try.prog w r b0 9 v) (h : DataW.Trod enc Try.prog w base sp hd 9 v d ps) : ∃ l : Bs, l.length ≤ maxLen ∧ Rep w (allR w) rho0 (.str l) v := by
  obtain ⟨s, rfl⟩ := okWide_string Try.underlying9 hv
  obtain ⟨u, ⟨l, us, e, hl, rfl⟩, hr⟩ := open_one (n := 1) (sh := .s .nil) (by kernel_rfl) rfl h
  cases e
  exact ⟨l, hl, hr⟩
theorem in_span (hv : Value.okWide Try.prog w r b0 24 v) (h : DataW.Trod enc Try.prog w base sp hd 24 v d ps) : ∃ s : Span, (s.f.length ≤ maxLen ∧ s.t.length ≤ maxLen) ∧ Rep w (allR w) rho0 (.agg [.str s.f, .str s.t]) v := by
  obtain ⟨cs, rfl, _⟩ := okWide_struct Try.underlying24 hv
  obtain ⟨vs, ⟨f, us, rfl, hf, t, us', rfl, ht, rfl⟩, hr⟩ := open_agg (n := 2) (sh := .s (.s .nil)) (by kernel_rfl) ⟨cs, rfl⟩ h
  exact ⟨⟨f, t⟩, ⟨hf, ht⟩, hr⟩
theorem in_places (hv : Value.okWide Try.prog w r b0 22 v) (h : DataW.Trod enc Try.prog w base sp hd 22 v d ps) : ∃ l : List Place, True ∧ Rep w (allR w) rho0 (.sl (l.map encP)) v := by
  obtain ⟨a, n, c, rfl⟩ := okWide_slice Try.underlying22 hv
  obtain ⟨u, ⟨rows, us, e, hrows, rfl⟩, hr⟩ := open_one (n := 4) (sh := .sl (.i .i64 (.i .i64 (.i .i64 (.s (.s .nil))))) .nil) (by kernel_rfl) rfl h
  cases e
  obtain ⟨l, rfl⟩ := rows_map (f := encP) (rows := rows) fun row hrow => by
    obtain ⟨a, us, rfl, _, b, us', rfl, _, c, us'', rfl, _, f, u4, rfl, _, t, u5, rfl, _, rfl⟩ := hrows row hrow
    exact ⟨⟨a, b, c, ⟨f, t⟩⟩, rfl⟩
  exact ⟨l, trivial, hr⟩
end
end Go.Proofs.Ythcbffejjkmmfaa
