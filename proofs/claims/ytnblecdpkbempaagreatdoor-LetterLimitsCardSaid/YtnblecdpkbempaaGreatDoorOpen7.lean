/-
  The arguments of these laws as words. No conditions.
-/
import Derived.Test.YtnblecdpkbempaaGreatDoorAbsLaw
import Derived.Test.YtnblecdpkbempaaGreatDoorLaw7a
namespace Go.Proofs.YtnblecdpkbempaaGreatDoor
open Go.ChangeShapes Go.WideShapes Go.ChangeAt Go.RowKit Go.Joins
set_option linter.unusedSimpArgs false
set_option linter.unusedVariables false
section
variable {H : Type} {enc : TypeId × Value → H} {w : World} {base : Nat} {sp : Nat → Bool} {hd : Bool} {r : Go.Reach} {b0 : Nat} {v : Value} {d : DataW H} {ps : List MemPlace}
set_option maxRecDepth 100000 in
theorem in_text (hv : Value.okWide Tryz.prog w r b0 9 v) (h : DataW.Trod enc Tryz.prog w base sp hd 9 v d ps) : ∃ l : Bs, l.length ≤ maxLen ∧ Rep w (allR w) rho0 (.str l) v := by
  obtain ⟨s, rfl⟩ := okWide_string Tryz.underlying9 hv
  obtain ⟨u, ⟨l, us, e, hl, rfl⟩, hr⟩ := open_one (n := 1) (sh := (.s .nil)) (by kernel_rfl) rfl h
  cases e
  exact ⟨l, hl, hr⟩
set_option maxRecDepth 100000 in
theorem in_u8 (hv : Value.okWide Tryz.prog w r b0 5 v) (h : DataW.Trod enc Tryz.prog w base sp hd 5 v d ps) : ∃ n : Int, (0 ≤ n ∧ n ≤ 255) ∧ Rep w (allR w) rho0 (.int .u8 n) v := by
  obtain ⟨s, rfl⟩ := okWide_int Tryz.underlying5 hv
  obtain ⟨u, ⟨n, us, e, hl, rfl⟩, hr⟩ := open_one (n := 1) (sh := (.i .u8 .nil)) (by kernel_rfl) rfl h
  cases e
  exact ⟨n, by simpa [Lit.wf, IntKind.min, IntKind.max, IntKind.signed, IntKind.bits] using hl, hr⟩
set_option maxRecDepth 100000 in
theorem in_u16 (hv : Value.okWide Tryz.prog w r b0 41 v) (h : DataW.Trod enc Tryz.prog w base sp hd 41 v d ps) : ∃ n : Int, (0 ≤ n ∧ n ≤ 65535) ∧ Rep w (allR w) rho0 (.int .u16 n) v := by
  obtain ⟨s, rfl⟩ := okWide_int Tryz.underlying41 hv
  obtain ⟨u, ⟨n, us, e, hl, rfl⟩, hr⟩ := open_one (n := 1) (sh := (.i .u16 .nil)) (by kernel_rfl) rfl h
  cases e
  exact ⟨n, by simpa [Lit.wf, IntKind.min, IntKind.max, IntKind.signed, IntKind.bits] using hl, hr⟩
set_option maxRecDepth 100000 in
theorem in_bool (hv : Value.okWide Tryz.prog w r b0 4 v) (h : DataW.Trod enc Tryz.prog w base sp hd 4 v d ps) : ∃ b : Bool, True ∧ Rep w (allR w) rho0 (.bool b) v := by
  obtain ⟨s, rfl⟩ := okWide_bool Tryz.underlying4 hv
  obtain ⟨u, ⟨n, us, e, rfl⟩, hr⟩ := open_one (n := 1) (sh := (.b .nil)) (by kernel_rfl) rfl h
  cases e
  exact ⟨n, trivial, hr⟩
set_option maxRecDepth 100000 in
theorem in_letter (hv : Value.okWide Tryz.prog w r b0 53 v) (h : DataW.Trod enc Tryz.prog w base sp hd 53 v d ps) : ∃ l : LetV, True ∧ Rep w (allR w) rho0 (.agg (encL l)) v := by
  obtain ⟨cs, rfl, _⟩ := okWide_struct Tryz.underlying53 hv
  obtain ⟨vs, ⟨kd, u_kd, rfl, g_kd, fr, u_fr, rfl, g_fr, to, u_to, rfl, g_to, n0, u_n0, rfl, g_n0, n1, u_n1, rfl, g_n1, n2, u_n2, rfl, g_n2, n3, u_n3, rfl, g_n3, n4, u_n4, rfl, g_n4, ok, u_ok, rfl, g_ok, oy, u_oy, rfl, g_oy, ot, u_ot, rfl, g_ot, ov, u_ov, rfl, g_ov, oe, u_oe, rfl, g_oe, ows, u_ows, rfl, g_ows, ac, u_ac, rfl, g_ac, av, u_av, rfl, g_av, an, u_an, rfl, g_an, ars, u_ars, rfl, g_ars, f, u_f, rfl, g_f, t, u_t, rfl, g_t, sn, u_sn, rfl, g_sn, ev, u_ev, rfl, g_ev, pl, u_pl, rfl, g_pl, da, u_da, rfl, g_da, rfl⟩, hr⟩ := open_agg (n := 7) (sh := (.i .i64 (.i .i64 (.i .i64 (.i .i64 (.i .i64 (.i .i64 (.i .i64 (.i .i64 (.i .i64 (.s (.s (.s (.i .i64 (.sl (.s (.s (.b .nil))) (.i .i64 (.s (.i .i64 (.sl (.s (.s (.i .i64 .nil))) (.s (.s (.sl (.s (.i .i64 .nil)) (.sl (.s (.i .i64 (.s (.b .nil)))) (.sl (.i .i64 (.i .i64 (.i .i64 (.s (.s .nil))))) (.s .nil))))))))))))))))))))))))) (by kernel_rfl) ⟨cs, rfl⟩ h
  obtain ⟨owsL, rfl⟩ := rows_map (f := encWr) (rows := ows) fun row hrow => by
    obtain ⟨k, u1, rfl, _, v, u2, rfl, _, d, u3, rfl, rfl⟩ := g_ows row hrow
    exact ⟨⟨k, v, d⟩, rfl⟩
  obtain ⟨arsL, rfl⟩ := rows_map (f := encRw) (rows := ars) fun row hrow => by
    obtain ⟨k, u1, rfl, _, v, u2, rfl, _, n, u3, rfl, _, rfl⟩ := g_ars row hrow
    exact ⟨⟨k, v, n⟩, rfl⟩
  obtain ⟨snL, rfl⟩ := rows_map (f := encN) (rows := sn) fun row hrow => by
    obtain ⟨k, u1, rfl, _, n, u2, rfl, _, rfl⟩ := g_sn row hrow
    exact ⟨⟨k, n⟩, rfl⟩
  obtain ⟨evL, rfl⟩ := rows_map (f := encE) (rows := ev) fun row hrow => by
    obtain ⟨k, u1, rfl, _, n, u2, rfl, _, v, u3, rfl, _, d, u4, rfl, rfl⟩ := g_ev row hrow
    exact ⟨⟨k, n, v, d⟩, rfl⟩
  obtain ⟨plL, rfl⟩ := rows_map (f := encP) (rows := pl) fun row hrow => by
    obtain ⟨i, u1, rfl, _, e, u2, rfl, _, n, u3, rfl, _, f, u4, rfl, _, t, u5, rfl, _, rfl⟩ := g_pl row hrow
    exact ⟨⟨i, e, n, f, t⟩, rfl⟩
  exact ⟨⟨kd, fr, to, n0, n1, n2, n3, n4, ⟨ok, oy, ot, ov, oe, owsL⟩, ⟨ac, av, an, arsL⟩, f, t, snL, evL, plL, da⟩, trivial, hr⟩
end
end Go.Proofs.YtnblecdpkbempaaGreatDoor
