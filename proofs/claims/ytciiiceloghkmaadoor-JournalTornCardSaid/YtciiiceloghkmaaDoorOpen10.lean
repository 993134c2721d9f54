/-
  The arguments of these laws as words. No conditions.
-/
import Derived.Test.YtciiiceloghkmaaDoorAbsLaw
namespace Go.Proofs.YtciiiceloghkmaaDoor
open Go.ChangeShapes Go.WideShapes Go.ChangeAt Go.RowKit Go.Joins
set_option linter.unusedSimpArgs false
set_option linter.unusedVariables false
section
variable {H : Type} {enc : TypeId × Value → H} {w : World} {base : Nat} {sp : Nat → Bool} {hd : Bool} {r : Go.Reach} {b0 : Nat} {v : Value} {d : DataW H} {ps : List MemPlace}
set_option maxRecDepth 100000 in
theorem in_text (hv : Value.okWide Tryd.prog w r b0 9 v) (h : DataW.Trod enc Tryd.prog w base sp hd 9 v d ps) : ∃ l : Bs, l.length ≤ maxLen ∧ Rep w (allR w) rho0 (.str l) v := by
  obtain ⟨s, rfl⟩ := okWide_string Tryd.underlying9 hv
  obtain ⟨u, ⟨l, us, e, hl, rfl⟩, hr⟩ := open_one (n := 1) (sh := (.s .nil)) (by kernel_rfl) rfl h
  cases e
  exact ⟨l, hl, hr⟩
set_option maxRecDepth 100000 in
theorem in_u16 (hv : Value.okWide Tryd.prog w r b0 40 v) (h : DataW.Trod enc Tryd.prog w base sp hd 40 v d ps) : ∃ n : Int, (0 ≤ n ∧ n ≤ 65535) ∧ Rep w (allR w) rho0 (.int .u16 n) v := by
  obtain ⟨s, rfl⟩ := okWide_int Tryd.underlying40 hv
  obtain ⟨u, ⟨n, us, e, hl, rfl⟩, hr⟩ := open_one (n := 1) (sh := (.i .u16 .nil)) (by kernel_rfl) rfl h
  cases e
  exact ⟨n, by simpa [Lit.wf, IntKind.min, IntKind.max, IntKind.signed, IntKind.bits] using hl, hr⟩
set_option maxRecDepth 100000 in
theorem in_texts (hv : Value.okWide Tryd.prog w r b0 23 v) (h : DataW.Trod enc Tryd.prog w base sp hd 23 v d ps) : ∃ l : List Bs, True ∧ Rep w (allR w) rho0 (.sl (l.map fun s => [.str s])) v := by
  obtain ⟨a, n, c, rfl⟩ := okWide_slice Tryd.underlying23 hv
  obtain ⟨u, ⟨rows, us, e, hrows, rfl⟩, hr⟩ := open_one (n := 2) (sh := (.sl (.s .nil) .nil)) (by kernel_rfl) rfl h
  cases e
  obtain ⟨l, rfl⟩ := rows_map (f := fun s : Bs => [V.str s]) (rows := rows) fun row hrow => by
    obtain ⟨f, u4, rfl, _, rfl⟩ := hrows row hrow
    exact ⟨f, rfl⟩
  exact ⟨l, trivial, hr⟩
end
end Go.Proofs.YtciiiceloghkmaaDoor
