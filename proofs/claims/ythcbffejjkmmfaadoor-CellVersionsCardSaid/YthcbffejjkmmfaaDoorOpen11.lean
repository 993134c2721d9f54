/-
  The arguments of these laws as words. No conditions.
-/
import Derived.Test.YthcbffejjkmmfaaDoorAbsLaw
namespace Go.Proofs.YthcbffejjkmmfaaDoor
open Go.ChangeShapes Go.WideShapes Go.ChangeAt Go.RowKit Go.Joins
set_option linter.unusedSimpArgs false
set_option linter.unusedVariables false
section
variable {H : Type} {enc : TypeId × Value → H} {w : World} {base : Nat} {sp : Nat → Bool} {hd : Bool} {r : Go.Reach} {b0 : Nat} {v : Value} {d : DataW H} {ps : List MemPlace}
set_option maxRecDepth 100000 in
theorem in_text (hv : Value.okWide Tryd.prog w r b0 9 v) (h : DataW.Trod enc Tryd.prog w base sp hd 9 v d ps) : ∃ l : Bs, l.length ≤ maxLen ∧ Rep w (allR w) rho0 (.str l) v := by
  obtain ⟨s, rfl⟩ := okWide_string Tryd.underlying9 hv
  obtain ⟨u, ⟨l, us, e, hl, rfl⟩, hr⟩ := open_one (n := 1) (sh := (.s .nil)) (by kernel_rfl) rfl h
  cases e
  exact ⟨l, hl, hr⟩
set_option maxRecDepth 100000 in
theorem in_u8 (hv : Value.okWide Tryd.prog w r b0 5 v) (h : DataW.Trod enc Tryd.prog w base sp hd 5 v d ps) : ∃ n : Int, (0 ≤ n ∧ n ≤ 255) ∧ Rep w (allR w) rho0 (.int .u8 n) v := by
  obtain ⟨s, rfl⟩ := okWide_int Tryd.underlying5 hv
  obtain ⟨u, ⟨n, us, e, hl, rfl⟩, hr⟩ := open_one (n := 1) (sh := (.i .u8 .nil)) (by kernel_rfl) rfl h
  cases e
  exact ⟨n, by simpa [Lit.wf, IntKind.min, IntKind.max, IntKind.signed, IntKind.bits] using hl, hr⟩
set_option maxRecDepth 100000 in
theorem in_bool (hv : Value.okWide Tryd.prog w r b0 4 v) (h : DataW.Trod enc Tryd.prog w base sp hd 4 v d ps) : ∃ b : Bool, True ∧ Rep w (allR w) rho0 (.bool b) v := by
  obtain ⟨s, rfl⟩ := okWide_bool Tryd.underlying4 hv
  obtain ⟨u, ⟨n, us, e, rfl⟩, hr⟩ := open_one (n := 1) (sh := (.b .nil)) (by kernel_rfl) rfl h
  cases e
  exact ⟨n, trivial, hr⟩
set_option maxRecDepth 100000 in
theorem in_cell (hv : Value.okWide Tryd.prog w r b0 38 v) (h : DataW.Trod enc Tryd.prog w base sp hd 38 v d ps) : ∃ (k y : Bs) (n : Int) (d : Bool) (f : Int), Rep w (allR w) rho0 (.agg [.str k, .str y, .int .i64 n, .bool d, .int .i64 f]) v := by
  obtain ⟨cs, rfl, _⟩ := okWide_struct Tryd.underlying38 hv
  obtain ⟨vs, ⟨k, us, rfl, _, y, u2, rfl, _, n, u3, rfl, _, d, u4, rfl, f, u5, rfl, _, rfl⟩, hr⟩ := open_agg (n := 5) (sh := (.s (.s (.i .i64 (.b (.i .i64 .nil)))))) (by kernel_rfl) ⟨cs, rfl⟩ h
  exact ⟨k, y, n, d, f, hr⟩
set_option maxRecDepth 100000 in
theorem in_event (hv : Value.okWide Tryd.prog w r b0 40 v) (h : DataW.Trod enc Tryd.prog w base sp hd 40 v d ps) : ∃ (k : Bs) (n : Int) (y : Bs) (d : Bool), Rep w (allR w) rho0 (.agg [.str k, .int .i64 n, .str y, .bool d]) v := by
  obtain ⟨cs, rfl, _⟩ := okWide_struct Tryd.underlying40 hv
  obtain ⟨vs, ⟨k, us, rfl, _, n, u2, rfl, _, y, u3, rfl, _, d, u4, rfl, rfl⟩, hr⟩ := open_agg (n := 4) (sh := (.s (.i .i64 (.s (.b .nil))))) (by kernel_rfl) ⟨cs, rfl⟩ h
  exact ⟨k, n, y, d, hr⟩
set_option maxRecDepth 100000 in
theorem in_texts (hv : Value.okWide Tryd.prog w r b0 52 v) (h : DataW.Trod enc Tryd.prog w base sp hd 52 v d ps) : ∃ l : List Bs, True ∧ Rep w (allR w) rho0 (.sl (l.map fun s => [.str s])) v := by
  obtain ⟨a, n, c, rfl⟩ := okWide_slice Tryd.underlying52 hv
  obtain ⟨u, ⟨rows, us, e, hrows, rfl⟩, hr⟩ := open_one (n := 2) (sh := (.sl (.s .nil) .nil)) (by kernel_rfl) rfl h
  cases e
  obtain ⟨l, rfl⟩ := rows_map (f := fun s : Bs => [V.str s]) (rows := rows) fun row hrow => by
    obtain ⟨f, u4, rfl, _, rfl⟩ := hrows row hrow
    exact ⟨f, rfl⟩
  exact ⟨l, trivial, hr⟩
end
end Go.Proofs.YthcbffejjkmmfaaDoor
