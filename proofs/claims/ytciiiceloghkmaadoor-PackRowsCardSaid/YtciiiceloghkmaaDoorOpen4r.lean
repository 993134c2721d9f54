/-
  The arguments of these laws as words. No conditions.
-/
import Derived.Test.YtciiiceloghkmaaDoorOpen4
import Derived.Test.YtciiiceloghkmaaDoorLaw4r
namespace Go.Proofs.YtciiiceloghkmaaDoor
open Go.ChangeShapes Go.WideShapes Go.ChangeAt Go.RowKit Go.Joins
set_option linter.unusedSimpArgs false
set_option linter.unusedVariables false
section
variable {H : Type} {enc : TypeId × Value → H} {w : World} {base : Nat} {sp : Nat → Bool} {hd : Bool} {r : Go.Reach} {b0 : Nat} {v : Value} {d : DataW H} {ps : List MemPlace}
set_option maxRecDepth 100000 in
theorem in_u32s (hv : Value.okWide Tryd.prog w r b0 22 v) (h : DataW.Trod enc Tryd.prog w base sp hd 22 v d ps) : ∃ l : List UInt32, True ∧ Rep w (allR w) rho0 (.sl (l.map encW)) v := by
  obtain ⟨a, n, c, rfl⟩ := okWide_slice Tryd.underlying22 hv
  obtain ⟨u, ⟨rows, us, e, hrows, rfl⟩, hr⟩ := open_one (n := 2) (sh := (.sl (.i .u32 .nil) .nil)) (by kernel_rfl) rfl h
  cases e
  obtain ⟨l, rfl⟩ := rows_map (f := encW) (rows := rows) fun row hrow => by
    obtain ⟨a, us, rfl, ha, rfl⟩ := hrows row hrow
    have h1 : 0 ≤ a ∧ a ≤ 4294967295 := by simpa [Lit.wf, IntKind.min, IntKind.max, IntKind.signed, IntKind.bits] using ha
    refine ⟨UInt32.ofNat a.toNat, ?_⟩
    simp only [encW, UInt32.toNat_ofNat', List.cons.injEq, V.int.injEq, and_true, true_and]
    omega
  exact ⟨l, trivial, hr⟩
end
end Go.Proofs.YtciiiceloghkmaaDoor
