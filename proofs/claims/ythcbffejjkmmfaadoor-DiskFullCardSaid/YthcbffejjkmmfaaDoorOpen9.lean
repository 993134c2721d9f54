/-
  The arguments of these laws as words. No conditions.
-/
import Derived.Test.YthcbffejjkmmfaaDoorAbsLaw
import Derived.Test.YthcbffejjkmmfaaDoorLaw9
namespace Go.Proofs.YthcbffejjkmmfaaDoor
open Go.ChangeShapes Go.WideShapes Go.ChangeAt Go.RowKit Go.Joins
set_option linter.unusedSimpArgs false
set_option linter.unusedVariables false
section
variable {H : Type} {enc : TypeId × Value → H} {w : World} {base : Nat} {sp : Nat → Bool} {hd : Bool} {r : Go.Reach} {b0 : Nat} {v : Value} {d : DataW H} {ps : List MemPlace}
set_option maxRecDepth 100000 in
theorem in_text (hv : Value.okWide Tryd.prog w r b0 9 v) (h : DataW.Trod enc Tryd.prog w base sp hd 9 v d ps) : ∃ l : Bs, l.length ≤ maxLen ∧ Rep w (allR w) rho0 (.str l) v := by
  obtain ⟨s, rfl⟩ := okWide_string Tryd.underlying9 hv
  obtain ⟨u, ⟨l, us, e, hl, rfl⟩, hr⟩ := open_one (n := 1) (sh := (.s .nil)) (by kernel_rfl) rfl h
  cases e
  exact ⟨l, hl, hr⟩
set_option maxRecDepth 100000 in
theorem in_steps (hv : Value.okWide Tryd.prog w r b0 22 v) (h : DataW.Trod enc Tryd.prog w base sp hd 22 v d ps) : ∃ l : List Step, True ∧ Rep w (allR w) rho0 (.sl (l.map encS)) v := by
  obtain ⟨a, n, c, rfl⟩ := okWide_slice Tryd.underlying22 hv
  obtain ⟨u, ⟨rows, us, e, hrows, rfl⟩, hr⟩ := open_one (n := 4) (sh := (.sl (.i .i64 (.i .i64 (.s .nil))) .nil)) (by kernel_rfl) rfl h
  cases e
  obtain ⟨l, rfl⟩ := rows_map (f := encS) (rows := rows) fun row hrow => by
    obtain ⟨a, us, rfl, _, b, us', rfl, _, f, u4, rfl, _, rfl⟩ := hrows row hrow
    exact ⟨⟨a, b, f⟩, rfl⟩
  exact ⟨l, trivial, hr⟩
set_option maxRecDepth 100000 in
theorem in_u8s (hv : Value.okWide Tryd.prog w r b0 35 v) (h : DataW.Trod enc Tryd.prog w base sp hd 35 v d ps) : ∃ l : List UInt8, True ∧ Rep w (allR w) rho0 (.sl (l.map encB)) v := by
  obtain ⟨a, n, c, rfl⟩ := okWide_slice Tryd.underlying35 hv
  obtain ⟨u, ⟨rows, us, e, hrows, rfl⟩, hr⟩ := open_one (n := 2) (sh := (.sl (.i .u8 .nil) .nil)) (by kernel_rfl) rfl h
  cases e
  obtain ⟨l, rfl⟩ := rows_map (f := encB) (rows := rows) fun row hrow => by
    obtain ⟨a, us, rfl, ha, rfl⟩ := hrows row hrow
    have h1 : 0 ≤ a ∧ a ≤ 255 := by simpa [Lit.wf, IntKind.min, IntKind.max, IntKind.signed, IntKind.bits] using ha
    refine ⟨UInt8.ofNat a.toNat, ?_⟩
    simp only [encB, UInt8.toNat_ofNat', List.cons.injEq, V.int.injEq, and_true, true_and]
    omega
  exact ⟨l, trivial, hr⟩
set_option maxRecDepth 100000 in
theorem in_u8 (hv : Value.okWide Tryd.prog w r b0 5 v) (h : DataW.Trod enc Tryd.prog w base sp hd 5 v d ps) : ∃ n : Int, (0 ≤ n ∧ n ≤ 255) ∧ Rep w (allR w) rho0 (.int .u8 n) v := by
  obtain ⟨s, rfl⟩ := okWide_int Tryd.underlying5 hv
  obtain ⟨u, ⟨n, us, e, hl, rfl⟩, hr⟩ := open_one (n := 1) (sh := (.i .u8 .nil)) (by kernel_rfl) rfl h
  cases e
  exact ⟨n, by simpa [Lit.wf, IntKind.min, IntKind.max, IntKind.signed, IntKind.bits] using hl, hr⟩
set_option maxRecDepth 100000 in
theorem in_u16 (hv : Value.okWide Tryd.prog w r b0 56 v) (h : DataW.Trod enc Tryd.prog w base sp hd 56 v d ps) : ∃ n : Int, (0 ≤ n ∧ n ≤ 65535) ∧ Rep w (allR w) rho0 (.int .u16 n) v := by
  obtain ⟨s, rfl⟩ := okWide_int Tryd.underlying56 hv
  obtain ⟨u, ⟨n, us, e, hl, rfl⟩, hr⟩ := open_one (n := 1) (sh := (.i .u16 .nil)) (by kernel_rfl) rfl h
  cases e
  exact ⟨n, by simpa [Lit.wf, IntKind.min, IntKind.max, IntKind.signed, IntKind.bits] using hl, hr⟩
end
end Go.Proofs.YthcbffejjkmmfaaDoor
