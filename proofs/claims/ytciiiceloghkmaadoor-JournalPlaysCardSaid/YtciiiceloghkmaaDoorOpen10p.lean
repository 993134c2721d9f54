/-
  The arguments of these laws as words. No conditions.
-/
import Derived.Test.YtciiiceloghkmaaDoorAbsLaw
import Derived.Test.YtciiiceloghkmaaDoorLaw10p
namespace Go.Proofs.YtciiiceloghkmaaDoor
open Go.ChangeShapes Go.WideShapes Go.ChangeAt Go.RowKit Go.Joins
set_option linter.unusedSimpArgs false
set_option linter.unusedVariables false
section
variable {H : Type} {enc : TypeId × Value → H} {w : World} {base : Nat} {sp : Nat → Bool} {hd : Bool} {r : Go.Reach} {b0 : Nat} {v : Value} {d : DataW H} {ps : List MemPlace}
set_option maxRecDepth 100000 in
theorem in_steps (hv : Value.okWide Tryd.prog w r b0 58 v) (h : DataW.Trod enc Tryd.prog w base sp hd 58 v d ps) : ∃ l : List JStep, True ∧ Rep w (allR w) rho0 (.sl (l.map encP)) v := by
  obtain ⟨a, n, c, rfl⟩ := okWide_slice Tryd.underlying58 hv
  obtain ⟨u, ⟨rows, us, e, hrows, rfl⟩, hr⟩ := open_one (n := 4) (sh := (.sl (.i .i64 (.s .nil)) .nil)) (by kernel_rfl) rfl h
  cases e
  obtain ⟨l, rfl⟩ := rows_map (f := encP) (rows := rows) fun row hrow => by
    obtain ⟨n, u1, rfl, hn, f, u4, rfl, _, rfl⟩ := hrows row hrow
    exact ⟨⟨n, f⟩, rfl⟩
  exact ⟨l, trivial, hr⟩
end
end Go.Proofs.YtciiiceloghkmaaDoor
