/-
  The arguments of these laws as words. No conditions.
-/
import Derived.Test.YtnblecdpkbempaaGreatDoorAbsLaw
import Derived.Test.YtnblecdpkbempaaGreatDoorImgB
namespace Go.Proofs.YtnblecdpkbempaaGreatDoor
open Go.ChangeShapes Go.WideShapes Go.ChangeAt Go.RowKit Go.Joins
set_option linter.unusedSimpArgs false
set_option linter.unusedVariables false
section
variable {H : Type} {enc : TypeId × Value → H} {w : World} {base : Nat} {sp : Nat → Bool} {hd : Bool} {r : Go.Reach} {b0 : Nat} {v : Value} {d : DataW H} {ps : List MemPlace}
set_option maxRecDepth 100000 in
theorem in_u32 (hv : Value.okWide Tryz.prog w r b0 40 v) (h : DataW.Trod enc Tryz.prog w base sp hd 40 v d ps) : ∃ n : Int, (0 ≤ n ∧ n ≤ 4294967295) ∧ Rep w (allR w) rho0 (.int .u32 n) v := by
  obtain ⟨s, rfl⟩ := okWide_int Tryz.underlying40 hv
  obtain ⟨u, ⟨n, us, e, hl, rfl⟩, hr⟩ := open_one (n := 1) (sh := (.i .u32 .nil)) (by kernel_rfl) rfl h
  cases e
  exact ⟨n, by simpa [Lit.wf, IntKind.min, IntKind.max, IntKind.signed, IntKind.bits] using hl, hr⟩
set_option maxRecDepth 100000 in
theorem in_u16 (hv : Value.okWide Tryz.prog w r b0 41 v) (h : DataW.Trod enc Tryz.prog w base sp hd 41 v d ps) : ∃ n : Int, (0 ≤ n ∧ n ≤ 65535) ∧ Rep w (allR w) rho0 (.int .u16 n) v := by
  obtain ⟨s, rfl⟩ := okWide_int Tryz.underlying41 hv
  obtain ⟨u, ⟨n, us, e, hl, rfl⟩, hr⟩ := open_one (n := 1) (sh := (.i .u16 .nil)) (by kernel_rfl) rfl h
  cases e
  exact ⟨n, by simpa [Lit.wf, IntKind.min, IntKind.max, IntKind.signed, IntKind.bits] using hl, hr⟩
set_option maxRecDepth 100000 in
theorem in_bool (hv : Value.okWide Tryz.prog w r b0 4 v) (h : DataW.Trod enc Tryz.prog w base sp hd 4 v d ps) : ∃ b : Bool, True ∧ Rep w (allR w) rho0 (.bool b) v := by
  obtain ⟨s, rfl⟩ := okWide_bool Tryz.underlying4 hv
  obtain ⟨u, ⟨n, us, e, rfl⟩, hr⟩ := open_one (n := 1) (sh := (.b .nil)) (by kernel_rfl) rfl h
  cases e
  exact ⟨n, trivial, hr⟩
set_option maxRecDepth 100000 in
theorem in_shard (hv : Value.okWide Tryz.prog w r b0 28 v) (h : DataW.Trod enc Tryz.prog w base sp hd 28 v d ps) : ∃ s : ShV, True ∧ Rep w (allR w) rho0 (.agg (encS s)) v := by
  obtain ⟨cs, rfl, _⟩ := okWide_struct Tryz.underlying28 hv
  obtain ⟨vs, ⟨id, u1, rfl, g1, ep, u2, rfl, g2, f, u3, rfl, g3, t, u4, rfl, g4, fz, u5, rfl, cs, u6, rfl, gc, ev, u7, rfl, ge, dn, u8, rfl, gd, rfl⟩, hr⟩ := open_agg (n := 8) (sh := (.i .i64 (.i .i64 (.s (.s (.b (.sl (.s (.s (.i .i64 (.b (.i .i64 .nil))))) (.sl (.s (.i .i64 (.s (.b .nil)))) (.sl (.i .i64 (.i .i64 (.i .i64 (.s (.i .i64 (.sl (.s (.s (.i .i64 .nil))) .nil)))))) .nil))))))))) (by kernel_rfl) ⟨cs, rfl⟩ h
  obtain ⟨csL, rfl⟩ := rows_map (f := encC) (rows := cs) fun row hrow => by
    obtain ⟨k, u1, rfl, _, v, u2, rfl, _, n, u3, rfl, _, d, u4, rfl, f, u5, rfl, _, rfl⟩ := gc row hrow
    exact ⟨⟨k, v, n, d, f⟩, rfl⟩
  obtain ⟨evL, rfl⟩ := rows_map (f := encE) (rows := ev) fun row hrow => by
    obtain ⟨k, u1, rfl, _, n, u2, rfl, _, v, u3, rfl, _, d, u4, rfl, rfl⟩ := ge row hrow
    exact ⟨⟨k, n, v, d⟩, rfl⟩
  obtain ⟨dnL, rfl⟩ := rows_map (f := encD) (rows := dn) fun row hrow => by
    obtain ⟨s, u1, rfl, _, i, u2, rfl, _, c, u3, rfl, _, v, u4, rfl, _, n, u5, rfl, _, rs, u6, rfl, hrs, rfl⟩ := gd row hrow
    obtain ⟨rl, rfl⟩ := rows_map (f := encRw) (rows := rs) fun row hrow => by
      obtain ⟨k, u1, rfl, _, v, u2, rfl, _, n, u3, rfl, _, rfl⟩ := hrs row hrow
      exact ⟨⟨k, v, n⟩, rfl⟩
    exact ⟨⟨s, i, ⟨c, v, n, rl⟩⟩, rfl⟩
  exact ⟨⟨id, ep, f, t, fz, csL, evL, dnL⟩, trivial, hr⟩
set_option maxRecDepth 100000 in
theorem in_span (hv : Value.okWide Tryz.prog w r b0 23 v) (h : DataW.Trod enc Tryz.prog w base sp hd 23 v d ps) : ∃ (f t : Bs), Rep w (allR w) rho0 (.agg [.str f, .str t]) v := by
  obtain ⟨cs, rfl, _⟩ := okWide_struct Tryz.underlying23 hv
  obtain ⟨vs, ⟨f, u1, rfl, _, t, u2, rfl, _, rfl⟩, hr⟩ := open_agg (n := 3) (sh := (.s (.s .nil))) (by kernel_rfl) ⟨cs, rfl⟩ h
  exact ⟨f, t, hr⟩
end
end Go.Proofs.YtnblecdpkbempaaGreatDoor
